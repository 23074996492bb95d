/- Texts joined: BaseP. -/
set_option linter.unusedVariables false
set_option linter.unusedSimpArgs false
set_option linter.unusedSectionVars false
section
section
namespace Gal
def clamp (x:Int):Int:=max (-2147483647) (min x 2147483647)
def add (a b:Int):Int:=clamp (clamp a+clamp b)
def sub (a b:Int):Int:=clamp (clamp a - clamp b)
def mul (a b:Int):Int:=clamp (clamp a*clamp b / 256)
theorem clamp_lo (x:Int):-2147483647≤clamp x:=by unfold clamp;omega
theorem clamp_hi (x:Int):clamp x≤2147483647:=by unfold clamp;omega
theorem clamp_id {x:Int} (h1:-2147483647≤x) (h2:x≤2147483647):clamp x=x:=by unfold clamp;omega
theorem clamp_clamp (x:Int):clamp (clamp x)=clamp x:=clamp_id (clamp_lo x) (clamp_hi x)
theorem mul_bd (a b:Int):-4611686014132420609≤clamp a*clamp b∧clamp a*clamp b≤4611686014132420609:=by
 have ha:=clamp_lo a;have ha':=clamp_hi a;have hb:=clamp_lo b;have hb':=clamp_hi b
 generalize clamp a=x at *;generalize clamp b=y at *
 have hn:(x*y).natAbs≤2147483647*2147483647:=by
  rw [Int.natAbs_mul];exact Nat.mul_le_mul (by omega) (by omega)
 omega
end Gal
end
section
namespace Gal
structure Mat where
 rows:Int
 cols:Int
 cells:List Int
def ix (xs:List Int) (i:Nat):Int:=xs[i]?.getD 0
def inEnds (xs:List Int):Prop:=∀ j,j<xs.length→clamp (ix xs j)=ix xs j
instance (xs:List Int):Decidable (inEnds xs):=by unfold inEnds;exact inferInstance
def matFault (r c:Int) (xs:List Int):Int:=
 if r<0∨24<r∨c<0∨12<c then 1 else if (xs.length:Int)≠r*c then 2 else if inEnds xs then 0 else 1
def grid (g:Nat→Nat→Int) (C i:Nat):List Int:=(List.range i).flatMap fun i=>(List.range C).map (g i)
def gridTo (g:Nat→Nat→Int) (C i j:Nat):List Int:=grid g C i++(List.range j).map (g i)
theorem gridTo_zero (g:Nat→Nat→Int) (C i:Nat):gridTo g C i 0=grid g C i:=by simp [gridTo]
theorem gridTo_cell (g:Nat→Nat→Int) (C i j:Nat):gridTo g C i j++[g i j]=gridTo g C i (j+1):=by
 unfold gridTo;rw [List.range_succ,List.map_append,List.append_assoc];rfl
theorem gridTo_row (g:Nat→Nat→Int) (C i:Nat):gridTo g C i C=grid g C (i+1):=by
 unfold gridTo grid;rw [List.range_succ,List.flatMap_append];simp
theorem grid_length (g:Nat→Nat→Int) (C i:Nat):(grid g C i).length=i*C:=by
 induction i with
 | zero=>simp [grid]
 | succ i ih=>rw [← gridTo_row];unfold gridTo;rw [List.length_append,ih];simp [Nat.succ_mul]
theorem grid_ix (g:Nat→Nat→Int) (C R:Nat) (i j:Nat) (hi:i<R) (hj:j<C):ix (grid g C R) (i*C+j)=g i j:=by
 induction R with
 | zero=>omega
 | succ R ih=>
  rw [← gridTo_row]
  unfold gridTo ix
  by_cases h:i<R
  ·rw [List.getElem?_append_left (by rw [grid_length];have:=Nat.mul_le_mul_right C (show i+1≤R by omega);rw [Nat.succ_mul] at this;omega)]
   exact ih h
  ·obtain rfl:i=R:=by omega
   rw [List.getElem?_append_right (by rw [grid_length];omega),grid_length]
   simp [show i*C+j - i*C=j by omega,hj]
def sumTo (f:Nat→Int):Nat→Int
 | 0=>0
 | n+1=>add (sumTo f n) (f n)
def mulCell (xs ys:List Int) (ac bc:Nat) (i j:Nat):Int:=sumTo (fun k=>mul (ix xs (i*ac+k)) (ix ys (k*bc+j))) ac
theorem sumTo_succ (f:Nat→Int) (n:Nat):sumTo f (n+1)=add (sumTo f n) (f n):=rfl
theorem cell_lt {i j R C:Nat} (hi:i<R) (hj:j<C):i*C+j<R*C:=by
 have:=Nat.mul_le_mul_right C (show i+1≤R by omega)
 rw [Nat.succ_mul] at this
 omega
def Mat.fault (m:Mat):Int:=matFault m.rows m.cols m.cells
def Mat.none:Mat:=⟨0,0,[]⟩
def mx (ms:List Mat) (i:Nat):Mat:=ms[i]?.getD Mat.none
def firstFault:List Mat→Int
 | []=>0
 | m :: r=>if m.fault=0 then firstFault r else m.fault
theorem firstFault_none {ms:List Mat} (h:∀ j,j<ms.length→(mx ms j).fault=0):firstFault ms=0:=by
 induction ms with
 | nil=>rfl
 | cons m r ih=>
  have h0:m.fault=0:=h 0 (by simp)
  unfold firstFault
  rw [if_pos h0]
  exact ih fun j hj=>h (j+1) (by simpa using hj)
theorem firstFault_at {ms:List Mat} {k:Nat} (hk:k<ms.length) (h:∀ j,j<k→(mx ms j).fault=0) (hne:(mx ms k).fault≠0):firstFault ms=(mx ms k).fault:=by
 induction ms generalizing k with
 | nil=>simp at hk
 | cons m r ih=>
  unfold firstFault
  cases k with
  | zero=>exact if_neg hne
  | succ k=>
   have h0:m.fault=0:=h 0 (by omega)
   rw [if_pos h0]
   exact ih (by simpa using hk) (fun j hj=>h (j+1) (by omega)) hne
end Gal
end
section
namespace Gal
theorem matFault_ok {r c:Int} {xs:List Int} (h:matFault r c xs=0):∃ R C:Nat,r=R∧c=C∧R≤24∧C≤12∧xs.length=R*C∧inEnds xs:=by
 unfold matFault at h
 by_cases h1:r<0∨24<r∨c<0∨12<c
 ·rw [if_pos h1] at h;omega
 ·rw [if_neg h1] at h
  by_cases h2:(xs.length:Int)≠r*c
  ·rw [if_pos h2] at h;omega
  ·rw [if_neg h2] at h
   by_cases h3:inEnds xs
   ·obtain ⟨R,hR⟩:=Int.eq_ofNat_of_zero_le (show 0≤r by omega)
    obtain ⟨C,hC⟩:=Int.eq_ofNat_of_zero_le (show 0≤c by omega)
    refine ⟨R,C,hR,hC,by omega,by omega,?_,h3⟩
    have h4:(xs.length:Int)=r*c:=Decidable.not_not.1 h2
    rw [hR,hC,← Int.natCast_mul] at h4
    omega
   ·rw [if_neg h3] at h;omega
theorem matFault_zero {R C:Nat} {xs:List Int} (hR:R≤24) (hC:C≤12) (hl:xs.length=R*C) (he:inEnds xs):matFault R C xs=0:=by
 unfold matFault
 rw [if_neg (by omega),if_neg (by rw [hl];simp),if_pos he]
def mulFault (a b:Mat):Int:=if firstFault [a,b]=0 then (if a.cols=b.rows then 0 else 2) else firstFault [a,b]
def matMul (a b:Mat):Mat:=⟨a.rows,b.cols,grid (mulCell a.cells b.cells a.cols.toNat b.cols.toNat) b.cols.toNat a.rows.toNat⟩
theorem firstFault_two {a b:Mat}:firstFault [a,b]=0 ↔ a.fault=0∧b.fault=0:=by
 unfold firstFault firstFault firstFault
 by_cases h:a.fault=0 <;> by_cases h':b.fault=0 <;> simp [h,h']
theorem mulFault_ok {a b:Mat} (h:mulFault a b=0):firstFault [a,b]=0∧a.cols=b.rows:=by
 unfold mulFault at h
 by_cases h1:firstFault [a,b]=0
 ·rw [if_pos h1] at h
  by_cases h2:a.cols=b.rows
  ·exact ⟨h1,h2⟩
  ·rw [if_neg h2] at h;omega
 ·rw [if_neg h1] at h;exact absurd h h1
def turnFault (a:Mat):Int:=if a.fault=0 then (if 12<a.rows then 1 else 0) else a.fault
def matTurn (a:Mat):Mat:=⟨a.cols,a.rows,grid (fun i j=>ix a.cells (j*a.cols.toNat+i)) a.rows.toNat a.cols.toNat⟩
theorem turnFault_ok {a:Mat} (h:turnFault a=0):a.fault=0∧a.rows≤12:=by
 unfold turnFault at h
 by_cases h1:a.fault=0
 ·rw [if_pos h1] at h
  by_cases h2:12<a.rows
  ·rw [if_pos h2] at h;omega
  ·exact ⟨h1,by omega⟩
 ·rw [if_neg h1] at h;exact absurd h h1
def piece (xs:List Int) (lo hi:Nat):List Int:=(xs.take hi).drop lo
theorem piece_length {xs:List Int} {lo hi:Nat} (h:hi≤xs.length):(piece xs lo hi).length=hi - lo:=by unfold piece;simp;omega
theorem piece_ix {xs:List Int} {lo hi i:Nat} (h:i<hi - lo):ix (piece xs lo hi) i=ix xs (lo+i):=by
 unfold piece ix;rw [List.getElem?_drop,List.getElem?_take_of_lt (by omega)]
def rowsFault (a:Mat) (lo hi:Int):Int:=if a.fault=0 then (if lo<0∨hi<lo∨a.rows<hi then 1 else 0) else a.fault
def matRows (a:Mat) (lo hi:Int):Mat:=⟨hi - lo,a.cols,piece a.cells (lo.toNat*a.cols.toNat) (hi.toNat*a.cols.toNat)⟩
theorem rowsFault_ok {a:Mat} {lo hi:Int} (h:rowsFault a lo hi=0):a.fault=0∧0≤lo∧lo≤hi∧hi≤a.rows:=by
 unfold rowsFault at h
 by_cases h1:a.fault=0
 ·rw [if_pos h1] at h
  by_cases h2:lo<0∨hi<lo∨a.rows<hi
  ·rw [if_pos h2] at h;omega
  ·exact ⟨h1,by omega⟩
 ·rw [if_neg h1] at h;exact absurd h h1
theorem mulFault_zero {a b:Mat} (ha:a.fault=0) (hb:b.fault=0) (h:a.cols=b.rows):mulFault a b=0:=by
 unfold mulFault
 rw [if_pos (firstFault_two.2 ⟨ha,hb⟩),if_pos h]
theorem turnFault_zero {a:Mat} (ha:a.fault=0) (h:a.rows≤12):turnFault a=0:=by
 unfold turnFault
 rw [if_pos ha,if_neg (by omega)]
end Gal
end
section
namespace Gal
theorem eq_of_ix {xs ys:List Int} (hl:xs.length=ys.length) (h:∀ j,j<xs.length→ix xs j=ix ys j):xs=ys:=by
 apply List.ext_getElem hl
 intro i h1 h2
 have:=h i h1
 unfold ix at this
 rw [List.getElem?_eq_getElem h1,List.getElem?_eq_getElem h2] at this
 simpa using this
theorem ix_set {xs:List Int} {i j:Nat} {v:Int} (hi:i<xs.length):ix (xs.set i v) j=if i=j then v else ix xs j:=by
 unfold ix
 rw [List.getElem?_set]
 by_cases h:i=j
 ·subst h;simp [hi]
 ·simp [h]
theorem row_col {k C R:Nat} (h:k<R*C):∃ i j,i<R∧j<C∧k=i*C+j:=by
 have hC:0<C:=by
  rcases Nat.eq_zero_or_pos C with h0|h0
  ·subst h0;simp at h
  ·exact h0
 refine ⟨k / C,k % C,?_,Nat.mod_lt _ hC,?_⟩
 ·exact (Nat.div_lt_iff_lt_mul hC).2 h
 ·have:=Nat.div_add_mod k C;rw [Nat.mul_comm] at this;exact this.symm
theorem eq_grid {xs:List Int} {g:Nat→Nat→Int} {R C:Nat} (hl:xs.length=R*C) (h:∀ i j,i<R→j<C→ix xs (i*C+j)=g i j):xs=grid g C R:=by
 refine eq_of_ix (by rw [hl,grid_length]) fun k hk=>?_
 obtain ⟨i,j,hi,hj,rfl⟩:=row_col (by rw [← hl];exact hk)
 rw [h i j hi hj,grid_ix g C R i j hi hj]
def zeros (n:Nat):List Int:=List.replicate n 0
theorem zeros_length (n:Nat):(zeros n).length=n:=List.length_replicate
theorem zeros_ix (n k:Nat):ix (zeros n) k=0:=by unfold ix zeros;by_cases h:k<n <;> simp [h]
theorem mul_one (x:Int):mul x 256=clamp x:=by
 unfold mul
 have h1:=clamp_lo x
 have h2:=clamp_hi x
 rw [clamp_id (x:=256) (by omega) (by omega),Int.mul_ediv_cancel _ (by omega),clamp_clamp]
theorem mul_zero (x:Int):mul x 0=0:=by
 unfold mul
 rw [clamp_id (x:=0) (by omega) (by omega),Int.mul_zero]
 rfl
theorem add_zero (x:Int):add x 0=clamp x:=by
 unfold add
 rw [clamp_id (x:=0) (by omega) (by omega),Int.add_zero,clamp_clamp]
theorem zero_add (x:Int):add 0 x=clamp x:=by
 unfold add
 rw [clamp_id (x:=0) (by omega) (by omega),Int.zero_add,clamp_clamp]
end Gal
end
section
namespace Gal
theorem mul_comm (a b:Int):mul a b=mul b a:=by unfold mul;rw [Int.mul_comm]
theorem add_clamp (a b:Int):clamp (add a b)=add a b:=clamp_clamp _
theorem sumTo_clamp (f:Nat→Int):∀ n,clamp (sumTo f n)=sumTo f n
 | 0=>rfl
 | n+1=>by rw [sumTo_succ];exact add_clamp _ _
theorem grid_inEnds {g:Nat→Nat→Int} {R C:Nat} (h:∀ i j,i<R→j<C→clamp (g i j)=g i j):inEnds (grid g C R):=by
 intro k hk
 rw [grid_length] at hk
 obtain ⟨i,j,hi,hj,rfl⟩:=row_col hk
 rw [grid_ix g C R i j hi hj]
 exact h i j hi hj
theorem matMul_fault {R K C:Nat} {xs ys:List Int} (hR:R≤24) (hC:C≤12):(matMul ⟨R,K,xs⟩ ⟨K,C,ys⟩).fault=0:=
 matFault_zero hR hC (grid_length _ _ _) (grid_inEnds fun _ _ _ _=>sumTo_clamp _ _)
theorem turn_fault {R K:Nat} {xs:List Int} (hR:R≤12) (hK:K≤12) (hl:xs.length=R*K) (he:inEnds xs):(matTurn ⟨R,K,xs⟩).fault=0:=
 matFault_zero (by omega) hR (grid_length _ _ _) (grid_inEnds fun i j hi hj=>he _ (by rw [hl];exact cell_lt hj hi))
end Gal
end
section
namespace Gal
theorem fault_bd {m:Mat} (h:m.fault=0):0≤m.rows∧m.rows≤24∧m.cells.length≤288:=by
 obtain ⟨R,C,h1,h2,h3,h4,h5,_⟩:=matFault_ok h
 have:=Nat.mul_le_mul h3 h4
 exact ⟨by omega,by omega,by omega⟩
def sameCols (ms:List Mat):Prop:=∀ j,j<ms.length→(mx ms j).cols=(mx ms 0).cols
instance (ms:List Mat):Decidable (sameCols ms):=by unfold sameCols;exact inferInstance
end Gal
end
section
namespace Gal
section
variable {R K k:Nat} {xs:List Int} (hk:k≤R) (hl:xs.length=R*K)
include hk hl
theorem kK:k*K≤R*K:=Nat.mul_le_mul_right K hk
end
end Gal
end
section
namespace Gal
def upto (f:Nat→Int) (k:Nat):List Int:=(List.range k).map f
theorem upto_succ (f:Nat→Int) (k:Nat):upto f (k+1)=upto f k++[f k]:=by simp [upto,List.range_succ]
theorem upto_length (f:Nat→Int) (k:Nat):(upto f k).length=k:=by simp [upto]
theorem upto_ix {f:Nat→Int} {k i:Nat} (h:i<k):ix (upto f k) i=f i:=by simp [ix,upto,h]
def offs (xs ys:List Int) (n:Nat):List Int:=upto (fun k=>sub (ix xs k) (ix ys k)) n
def sqSum (l:List Int):Int:=l.foldl (fun s d=>add s (mul d d)) 0
theorem sqSum_snoc (l:List Int) (d:Int):sqSum (l++[d])=add (sqSum l) (mul d d):=by simp [sqSum]
def lossFault (a b:Mat):Int:=if firstFault [a,b]=0 then (if a.rows=b.rows∧a.cols=b.cols then 0 else 2) else firstFault [a,b]
def lossOf (a b:Mat):Int:=mul (sqSum (offs a.cells b.cells a.cells.length)) 128
def lossBack (a b:Mat):Mat:=⟨a.rows,a.cols,offs a.cells b.cells a.cells.length⟩
theorem lossFault_ok {a b:Mat} (h:lossFault a b=0):a.fault=0∧b.fault=0∧a.rows=b.rows∧a.cols=b.cols:=by
 unfold lossFault at h
 by_cases h1:firstFault [a,b]=0
 ·rw [if_pos h1] at h
  obtain ⟨h2,h3⟩:=firstFault_two.1 h1
  by_cases h4:a.rows=b.rows∧a.cols=b.cols
  ·exact ⟨h2,h3,h4.1,h4.2⟩
  ·rw [if_neg h4] at h;omega
 ·rw [if_neg h1] at h;exact absurd h h1
theorem lossFault_zero {a b:Mat} (ha:a.fault=0) (hb:b.fault=0) (hr:a.rows=b.rows) (hc:a.cols=b.cols):lossFault a b=0:=by
 unfold lossFault
 rw [if_pos (firstFault_two.2 ⟨ha,hb⟩),if_pos ⟨hr,hc⟩]
end Gal
end
section
namespace Gal
theorem clamp_nn {x:Int} (h:0≤x):0≤clamp x:=by unfold clamp;omega
theorem sub_self (x:Int):sub x x=0:=by unfold sub;rw [Int.sub_self];rfl
theorem mul_sq_nn (d:Int):0≤mul d d:=by
 unfold mul
 apply clamp_nn
 have h:0≤clamp d*clamp d:=by
  rcases Int.le_total 0 (clamp d) with h|h
  ·exact Int.mul_nonneg h h
  ·rw [← Int.neg_mul_neg];exact Int.mul_nonneg (by omega) (by omega)
 omega
theorem add_nn {x y:Int} (hx:0≤x) (hy:0≤y):0≤add x y:=by
 unfold add
 have h1:=clamp_nn hx
 have h2:=clamp_nn hy
 exact clamp_nn (by omega)
theorem sqSum_nn (l:List Int):0≤sqSum l:=by
 unfold sqSum
 have:∀ (l:List Int) (s:Int),0≤s→0≤l.foldl (fun s d=>add s (mul d d)) s:=by
  intro l
  induction l with
  | nil=>intro s hs;exact hs
  | cons d l ih=>intro s hs;exact ih _ (add_nn hs (mul_sq_nn d))
 exact this l 0 (Int.le_refl _)
end Gal
end
section
namespace Gal
def pad (g:Nat→Int) (n k:Nat):List Int:=upto (fun i=>if i<k then g i else 0) n
theorem pad_length (g:Nat→Int) (n k:Nat):(pad g n k).length=n:=upto_length _ _
theorem pad_zero (g:Nat→Int) (n:Nat):pad g n 0=zeros n:=by
 refine eq_of_ix (by rw [pad_length,zeros_length]) fun j hj=>?_
 rw [pad_length] at hj
 rw [zeros_ix]
 unfold pad
 rw [upto_ix hj,if_neg (Nat.not_lt_zero _)]
theorem pad_full (g:Nat→Int) (n:Nat):pad g n n=upto g n:=by
 refine eq_of_ix (by rw [pad_length,upto_length]) fun j hj=>?_
 rw [pad_length] at hj
 unfold pad
 rw [upto_ix hj,upto_ix hj,if_pos hj]
theorem pad_ix {g:Nat→Int} {n k j:Nat} (hj:j<n):ix (pad g n k) j=if j<k then g j else 0:=by unfold pad;rw [upto_ix hj]
theorem pad_set {g:Nat→Int} {n k:Nat} (hk:k<n):(pad g n k).set k (g k)=pad g n (k+1):=by
 refine eq_of_ix (by rw [List.length_set,pad_length,pad_length]) fun j hj=>?_
 rw [List.length_set,pad_length] at hj
 rw [ix_set (by rw [pad_length];exact hk),pad_ix hj,pad_ix hj]
 by_cases h:k=j
 ·subst h;rw [if_pos rfl,if_pos (by omega)]
 ·rw [if_neg h]
  by_cases h2:j<k
  ·rw [if_pos h2,if_pos (by omega)]
  ·rw [if_neg h2,if_neg (by omega)]
theorem upto_congr {f g:Nat→Int} {n:Nat} (h:∀ k,k<n→f k=g k):upto f n=upto g n:=by
 refine eq_of_ix (by rw [upto_length,upto_length]) fun j hj=>?_
 rw [upto_length] at hj
 rw [upto_ix hj,upto_ix hj,h j hj]
theorem upto_self {xs:List Int}:upto (ix xs) xs.length=xs:=by
 refine eq_of_ix (upto_length _ _) fun j hj=>?_
 rw [upto_length] at hj
 rw [upto_ix hj]
end Gal
end
section
namespace Gal
theorem upto_set {s:Nat→Int} {n p:Nat} {v:Int} (hp:p<n):(upto s n).set p v=upto (fun q=>if q=p then v else s q) n:=by
 refine eq_of_ix (by rw [List.length_set,upto_length,upto_length]) fun j hj=>?_
 rw [List.length_set,upto_length] at hj
 rw [ix_set (by rw [upto_length];exact hp),upto_ix hj,upto_ix hj]
 by_cases h:p=j
 ·subst h;rw [if_pos rfl]
 ·rw [if_neg h,if_neg (fun e=>h e.symm)]
theorem place_div {i j C:Nat} (hj:j<C):(i*C+j) / C=i:=by
 rw [Nat.mul_comm,Nat.mul_add_div (by omega),Nat.div_eq_of_lt hj,Nat.add_zero]
theorem place_mod {i j C:Nat} (hj:j<C):(i*C+j) % C=j:=by
 rw [Nat.mul_comm,Nat.mul_add_mod,Nat.mod_eq_of_lt hj]
theorem grid_upto (g:Nat→Nat→Int) (R C:Nat):grid g C R=upto (fun p=>g (p / C) (p % C)) (R*C):=by
 symm
 refine eq_grid (upto_length _ _) fun i j hi hj=>?_
 rw [upto_ix (cell_lt hi hj),place_div hj,place_mod hj]
theorem zeros_upto (n:Nat):zeros n=upto (fun _=>0) n:=by
 refine eq_of_ix (by rw [zeros_length,upto_length]) fun j hj=>?_
 rw [zeros_length] at hj
 rw [zeros_ix,upto_ix hj]
theorem place_is (p C:Nat):p / C*C+p % C=p:=by rw [Nat.mul_comm];exact Nat.div_add_mod p C
def turnS (xs:List Int) (R K i j p:Nat):Int:=if p % R<i∨p % R=i∧p / R<j then ix xs (p % R*K+p / R) else 0
theorem turnS_zero (xs:List Int) (R K:Nat):upto (turnS xs R K 0 0) (K*R)=zeros (K*R):=by
 rw [zeros_upto]
 refine upto_congr fun p hp=>?_
 unfold turnS
 generalize p % R=m
 generalize p / R=q
 rw [if_neg (by omega)]
theorem turnS_cell {xs:List Int} {R K i j:Nat} (hi:i<R) (hj:j<K):(upto (turnS xs R K i j) (K*R)).set (j*R+i) (ix xs (i*K+j))=upto (turnS xs R K i (j+1)) (K*R):=by
 rw [upto_set (cell_lt hj hi)]
 refine upto_congr fun p hp=>?_
 unfold turnS
 by_cases h:p=j*R+i
 ·rw [if_pos h,h,place_mod hi,place_div hi,if_pos (by omega)]
 ·rw [if_neg h]
  have h':¬ (p % R=i∧p / R=j):=fun ⟨e1,e2⟩=>h (by have:=place_is p R;rw [e1,e2] at this;exact this.symm)
  generalize p % R=m at *
  generalize p / R=q at *
  by_cases h2:m<i∨m=i∧q<j
  ·rw [if_pos h2,if_pos (by omega)]
  ·rw [if_neg h2,if_neg (by omega)]
theorem turnS_row {xs:List Int} {R K i:Nat} (hR:0<R):upto (turnS xs R K i K) (K*R)=upto (turnS xs R K (i+1) 0) (K*R):=by
 refine upto_congr fun p hp=>?_
 unfold turnS
 have h:p / R<K:=Nat.div_lt_of_lt_mul (by rw [Nat.mul_comm];exact hp)
 generalize p % R=m at *
 generalize p / R=q at *
 by_cases h2:m<i∨m=i∧q<K
 ·rw [if_pos h2,if_pos (by omega)]
 ·rw [if_neg h2,if_neg (by omega)]
theorem turnS_all {xs:List Int} {R K:Nat}:(⟨K,R,upto (turnS xs R K R 0) (K*R)⟩:Mat)=matTurn ⟨R,K,xs⟩:=by
 unfold matTurn
 simp only [Int.toNat_natCast]
 rw [grid_upto]
 congr 1
 refine upto_congr fun p hp=>?_
 unfold turnS
 have hR:0<R:=by
  rcases Nat.eq_zero_or_pos R with h|h
  ·rw [h,Nat.mul_zero] at hp;omega
  ·exact h
 rw [if_pos (Or.inl (Nat.mod_lt _ hR))]
def mulS (xs ys:List Int) (K C k q p:Nat):Int:=sumTo (fun t=>mul (ix xs (p / C*K+t)) (ix ys (t*C+p % C))) (if p<q then k+1 else k)
theorem mulS_zero (xs ys:List Int) (K C n:Nat):upto (mulS xs ys K C 0 0) n=zeros n:=by
 rw [zeros_upto]
 refine upto_congr fun p hp=>?_
 unfold mulS
 rw [if_neg (by omega)]
 rfl
theorem mulS_at {xs ys:List Int} {K C k i j:Nat} (hj:j<C):mulS xs ys K C k (i*C+j) (i*C+j)=sumTo (fun t=>mul (ix xs (i*K+t)) (ix ys (t*C+j))) k:=by
 unfold mulS
 rw [if_neg (by omega),place_div hj,place_mod hj]
theorem mulS_cell {xs ys:List Int} {R K C k i j:Nat} (hi:i<R) (hj:j<C) :
  (upto (mulS xs ys K C k (i*C+j)) (R*C)).set (i*C+j) (add (sumTo (fun t=>mul (ix xs (i*K+t)) (ix ys (t*C+j))) k) (mul (ix xs (i*K+k)) (ix ys (k*C+j))))=upto (mulS xs ys K C k (i*C+(j+1))) (R*C):=by
 rw [upto_set (cell_lt hi hj)]
 refine upto_congr fun p hp=>?_
 unfold mulS
 by_cases h:p=i*C+j
 ·rw [if_pos h,h,if_pos (by omega),place_div hj,place_mod hj];rfl
 ·rw [if_neg h]
  by_cases h2:p<i*C+j
  ·rw [if_pos h2,if_pos (by omega)]
  ·rw [if_neg h2,if_neg (by omega)]
theorem mulS_row (xs ys:List Int) (K C k i n:Nat):upto (mulS xs ys K C k (i*C+C)) n=upto (mulS xs ys K C k ((i+1)*C+0)) n:=by rw [Nat.succ_mul,Nat.add_zero]
theorem mulS_next (xs ys:List Int) (R K C k:Nat):upto (mulS xs ys K C k (R*C+0)) (R*C)=upto (mulS xs ys K C (k+1) (0*C+0)) (R*C):=by
 refine upto_congr fun p hp=>?_
 unfold mulS
 rw [if_pos (by omega),if_neg (by omega)]
theorem mulS_all {xs ys:List Int} {R K C:Nat}:(⟨R,C,upto (mulS xs ys K C K (0*C+0)) (R*C)⟩:Mat)=matMul ⟨R,K,xs⟩ ⟨K,C,ys⟩:=by
 unfold matMul
 simp only [Int.toNat_natCast]
 rw [grid_upto]
 congr 1
 refine upto_congr fun p hp=>?_
 unfold mulS mulCell
 rw [if_neg (by omega)]
def matSums (a:Mat):Mat:=⟨1,a.cols,grid (fun _ j=>sumTo (fun i=>ix a.cells (i*a.cols.toNat+j)) a.rows.toNat) a.cols.toNat 1⟩
def sumS (xs:List Int) (K q c j:Nat):Int:=sumTo (fun i=>ix xs (i*K+j)) (if j<c then q+1 else q)
theorem sumS_zero (xs:List Int) (K n:Nat):upto (sumS xs K 0 0) n=zeros n:=by
 rw [zeros_upto]
 refine upto_congr fun p hp=>?_
 unfold sumS
 rw [if_neg (by omega)]
 rfl
theorem sumS_at (xs:List Int) (K q c:Nat):sumS xs K q c c=sumTo (fun i=>ix xs (i*K+c)) q:=by unfold sumS;rw [if_neg (by omega)]
theorem sumS_cell {xs:List Int} {K q c:Nat} (hc:c<K):(upto (sumS xs K q c) K).set c (add (sumTo (fun i=>ix xs (i*K+c)) q) (ix xs (q*K+c)))=upto (sumS xs K q (c+1)) K:=by
 rw [upto_set hc]
 refine upto_congr fun p hp=>?_
 unfold sumS
 by_cases h:p=c
 ·rw [if_pos h,h,if_pos (by omega)];rfl
 ·rw [if_neg h]
  by_cases h2:p<c
  ·rw [if_pos h2,if_pos (by omega)]
  ·rw [if_neg h2,if_neg (by omega)]
theorem sumS_next (xs:List Int) (K q:Nat):upto (sumS xs K q K) K=upto (sumS xs K (q+1) 0) K:=by
 refine upto_congr fun p hp=>?_
 unfold sumS
 rw [if_pos hp,if_neg (by omega)]
theorem sumS_all {xs:List Int} {R K:Nat}:(⟨1,K,upto (sumS xs K R 0) (1*K)⟩:Mat)=matSums ⟨R,K,xs⟩:=by
 unfold matSums
 simp only [Int.toNat_natCast]
 rw [grid_upto]
 congr 1
 refine upto_congr fun p hp=>?_
 unfold sumS
 rw [if_neg (by omega)]
 rw [Nat.one_mul] at hp
 rw [Nat.mod_eq_of_lt hp]
theorem rows_upto {R K L H:Nat} {xs:List Int} (hLH:L≤H) (hHR:H≤R) (hl:xs.length=R*K):matRows ⟨R,K,xs⟩ L H=⟨(H - L:Nat),K,upto (fun k=>ix xs (L*K+k)) ((H - L)*K)⟩:=by
 unfold matRows
 simp only [Int.toNat_natCast]
 have e:(H:Int) - L=((H - L:Nat):Int):=by omega
 rw [e]
 congr 1
 have h1:H*K≤R*K:=Nat.mul_le_mul_right K hHR
 have h2:(H - L)*K=H*K - L*K:=Nat.sub_mul _ _ _
 refine eq_of_ix (by rw [piece_length (by omega),upto_length,h2]) fun j hj=>?_
 rw [piece_length (by omega)] at hj
 rw [piece_ix hj,upto_ix (by omega)]
def matTimes (a:Mat) (x:Int):Mat:=⟨a.rows,a.cols,upto (fun k=>mul (ix a.cells k) x) a.cells.length⟩
def matAdd (a b:Mat):Mat:=⟨a.rows,a.cols,upto (fun k=>add (ix a.cells k) (ix b.cells k)) a.cells.length⟩
end Gal
end
section
namespace Gal
structure Lay where
 kind:Int
 W:Mat
 B:Mat
def Mat.empty (m:Mat):Prop:=m.rows=0∧m.cols=0
instance (m:Mat):Decidable m.empty:=by unfold Mat.empty;exact inferInstance
def Lay.fits (l:Lay):Prop:=
 (l.kind=1∧0<l.W.rows∧0<l.W.cols∧l.W.rows≤12∧l.B.rows=1∧l.B.cols=l.W.cols) ∨
 (l.kind=2∧l.W.empty∧l.B.empty) ∨
 (l.kind=3∧l.W.rows=1∧l.W.cols=1∧l.B.empty) ∨
 (l.kind=4∧l.W.empty∧l.B.rows=1∧0<l.B.cols)
instance (l:Lay):Decidable l.fits:=by unfold Lay.fits;exact inferInstance
def Lay.fault (l:Lay):Int:=
 if l.kind<1∨4<l.kind then 1 else if l.W.fault≠0 then l.W.fault else if l.B.fault≠0 then l.B.fault else if l.fits then 0 else 2
theorem Lay.fault_ok {l:Lay} (h:l.fault=0):1≤l.kind∧l.kind≤4∧l.W.fault=0∧l.B.fault=0∧l.fits:=by
 unfold Lay.fault at h
 by_cases h1:l.kind<1∨4<l.kind
 ·rw [if_pos h1] at h;omega
 ·rw [if_neg h1] at h
  by_cases h2:l.W.fault=0
  ·rw [if_neg (by simp [h2])] at h
   by_cases h3:l.B.fault=0
   ·rw [if_neg (by simp [h3])] at h
    by_cases h4:l.fits
    ·exact ⟨by omega,by omega,h2,h3,h4⟩
    ·rw [if_neg h4] at h;omega
   ·rw [if_pos h3] at h;exact absurd h h3
  ·rw [if_pos h2] at h;exact absurd h h2
def Lay.takes (l:Lay) (n:Int):Prop:=(l.kind=1→n=l.W.rows)∧(l.kind=4→n=l.B.cols)
instance (l:Lay) (n:Int):Decidable (l.takes n):=by unfold Lay.takes;exact inferInstance
def Lay.wide (l:Lay) (n:Int):Int:=if l.kind=1 then l.W.cols else n
def Lay.wideFault (l:Lay) (n:Int):Int:=if l.fault≠0 then l.fault else if n<0∨12<n then 1 else if l.takes n then 0 else 2
def Lay.goFault (l:Lay) (x:Mat):Int:=if l.fault≠0 then l.fault else if x.fault≠0 then x.fault else if l.takes x.cols then 0 else 2
def moreCells (xs row:List Int) (K:Nat):List Int:=upto (fun k=>add (ix xs k) (ix row (k % K))) xs.length
def Lay.go (l:Lay) (x:Mat):Mat:=
 if l.kind=1 then ⟨x.rows,l.W.cols,moreCells (matMul x l.W).cells l.B.cells l.W.cols.toNat⟩
 else if l.kind=2 then ⟨x.rows,x.cols,upto (fun k=>max (ix x.cells k) 0) x.cells.length⟩
 else if l.kind=3 then ⟨x.rows,x.cols,upto (fun k=>mul (ix x.cells k) (ix l.W.cells 0)) x.cells.length⟩
 else ⟨x.rows,x.cols,moreCells x.cells l.B.cells x.cols.toNat⟩
def Lay.backFault (l:Lay) (x g:Mat):Int:=
 if l.goFault x≠0 then l.goFault x else if g.fault≠0 then g.fault else if g.rows≠x.rows∨g.cols≠l.wide x.cols then 2 else if l.kind=1∧12<x.rows then 1 else 0
structure Grd where
 W:Mat
 B:Mat
def Grd.none:Grd:=⟨Mat.none,Mat.none⟩
def dotTo (xs gs:List Int):Nat→Int:=sumTo fun k=>mul (ix xs k) (ix gs k)
def Lay.back (l:Lay) (x g:Mat):Mat:=
 if l.kind=1 then matMul g (matTurn l.W)
 else if l.kind=2 then ⟨x.rows,x.cols,upto (fun k=>if 0<ix x.cells k then ix g.cells k else 0) x.cells.length⟩
 else if l.kind=3 then ⟨g.rows,g.cols,upto (fun k=>mul (ix g.cells k) (ix l.W.cells 0)) g.cells.length⟩
 else ⟨g.rows,g.cols,upto (ix g.cells) g.cells.length⟩
def Lay.grad (l:Lay) (x g:Mat):Grd:=
 if l.kind=1 then ⟨matMul (matTurn x) g,matSums g⟩
 else if l.kind=2 then Grd.none
 else if l.kind=3 then ⟨⟨1,1,[dotTo x.cells g.cells x.cells.length]⟩,Mat.none⟩
 else ⟨Mat.none,matSums g⟩
theorem Lay.wideFault_ok {l:Lay} {n:Int} (h:l.wideFault n=0):l.fault=0∧0≤n∧n≤12∧l.takes n:=by
 unfold Lay.wideFault at h
 by_cases h1:l.fault=0
 ·rw [if_neg (by simp [h1])] at h
  by_cases h2:n<0∨12<n
  ·rw [if_pos h2] at h;omega
  ·rw [if_neg h2] at h
   by_cases h3:l.takes n
   ·exact ⟨h1,by omega,by omega,h3⟩
   ·rw [if_neg h3] at h;omega
 ·rw [if_pos h1] at h;exact absurd h h1
theorem Lay.goFault_ok {l:Lay} {x:Mat} (h:l.goFault x=0):l.fault=0∧x.fault=0∧l.takes x.cols:=by
 unfold Lay.goFault at h
 by_cases h1:l.fault=0
 ·rw [if_neg (by simp [h1])] at h
  by_cases h2:x.fault=0
  ·rw [if_neg (by simp [h2])] at h
   by_cases h3:l.takes x.cols
   ·exact ⟨h1,h2,h3⟩
   ·rw [if_neg h3] at h;omega
  ·rw [if_pos h2] at h;exact absurd h h2
 ·rw [if_pos h1] at h;exact absurd h h1
theorem Lay.backFault_ok {l:Lay} {x g:Mat} (h:l.backFault x g=0):l.goFault x=0∧g.fault=0∧g.rows=x.rows∧g.cols=l.wide x.cols∧(l.kind=1→x.rows≤12):=by
 unfold Lay.backFault at h
 by_cases h1:l.goFault x=0
 ·rw [if_neg (by simp [h1])] at h
  by_cases h2:g.fault=0
  ·rw [if_neg (by simp [h2])] at h
   by_cases h3:g.rows≠x.rows∨g.cols≠l.wide x.cols
   ·rw [if_pos h3] at h;omega
   ·rw [if_neg h3] at h
    by_cases h4:l.kind=1∧12<x.rows
    ·rw [if_pos h4] at h;omega
    ·refine ⟨h1,h2,?_,?_,fun hk=>?_⟩ <;> omega
  ·rw [if_pos h2] at h;exact absurd h h2
 ·rw [if_pos h1] at h;exact absurd h h1
theorem Lay.goFault_wide {l:Lay} {x:Mat} (hx:x.fault=0):l.goFault x=l.wideFault x.cols:=by
 obtain ⟨R,K,_,eK,_,hK,_,_⟩:=matFault_ok hx
 unfold Lay.goFault Lay.wideFault
 by_cases h1:l.fault=0
 ·have n1:¬ l.fault≠0:=fun h=>h h1
  have n2:¬ x.fault≠0:=fun h=>h hx
  have n3:¬ (x.cols<0∨12<x.cols):=by omega
  simp only [if_neg n1,if_neg n2,if_neg n3]
 ·simp only [if_pos h1]
def okOr (f x:Int):Int:=if f=0 then x else 0
theorem okOr_ok {f x:Int} (h:f=0):okOr f x=x:=if_pos h
theorem okOr_bad {f x:Int} (h:f≠0):okOr f x=0:=if_neg h
theorem moreCells_length (xs row:List Int) (K:Nat):(moreCells xs row K).length=xs.length:=upto_length _ _
end Gal
end
section
namespace Gal
end Gal
end
end
