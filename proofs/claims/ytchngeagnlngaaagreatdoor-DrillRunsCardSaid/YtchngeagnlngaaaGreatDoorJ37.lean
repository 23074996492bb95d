/- Texts joined: Keep2, PKeep3, PKeep4, Cell7. -/
import Derived.Test.YtchngeagnlngaaaGreatDoorJ36
import Derived.Test.YtchngeagnlngaaaGreatDoorJ23
set_option linter.unusedVariables false
set_option linter.unusedSimpArgs false
set_option linter.unusedSectionVars false
section
set_option maxRecDepth 100000
namespace Gal
open Go Go.RowKit
theorem matNums_len (m:Mat):(matNums m).length=2+m.cells.length:=by unfold matNums;simp;omega
theorem matNums_cell {m:Mat} {t:Nat} (h:t<m.cells.length):(matNums m)[2+t]?=some (zigOf (ix m.cells t)):=by
 unfold matNums
 rw [List.getElem?_append_right (by simp)]
 simp [ix,h]
theorem mat_small {m:Mat} (h:m.fault=0):(0≤m.rows∧m.rows≤24)∧(0≤m.cols∧m.cols≤12)∧m.cells.length≤288∧∀ x ∈ m.cells,-2147483647≤x∧x≤2147483647:=by
 obtain ⟨h4,h5,h6,h7⟩:=matFault_0 (show matFault m.rows m.cols m.cells=0 from h)
 have a1:m.rows*m.cols≤24*m.cols:=Int.mul_le_mul_of_nonneg_right h4.2 h5.1
 exact ⟨h4,h5,by omega,ends_mem h7⟩
theorem matNums_lt {m:Mat} (h:m.fault=0):∀ x ∈ matNums m,x<4294967295:=fun x hx=>by
 obtain ⟨h1,h2,_,h3⟩:=mat_small h
 unfold matNums at hx
 rcases List.mem_append.1 hx with hx|hx
 ·simp only [List.mem_cons,List.not_mem_nil,or_false] at hx
  omega
 ·obtain ⟨y,hy,rfl⟩:=List.mem_map.1 hx
  exact zig_lt (h3 y hy)
theorem matNums_take_len {m:Mat} (h:m.fault=0) (t:Nat):(((matNums m).take t).flatMap seven).length≤2610:=by
 have h1:=sevens_len (l:=(matNums m).take t) fun x hx=>by have:=matNums_lt h x (List.mem_of_mem_take hx);omega
 have h2:((matNums m).take t).length≤290:=by
  rw [List.length_take,matNums_len]
  have:=(mat_small h).2.2.1
  omega
 omega
def Apart (R:Nat) (v:Value) (p:Nat):Prop:=p≠R∧v.ownBlock≠some p
theorem PenGo.apart {R p:Nat} {w w':World} {v v':Value} (k:PenGo R w w' v v') (h:Apart R v p) (hp:p<w.heap.size):Apart R v' p:=⟨h.1,fun e=>by
 rcases k.own p e with h1|h1
 ·exact h.2 h1
 ·omega⟩
theorem Box.pen {R p:Nat} {w w':World} {v v':Value} {cs:List Value} {T:TypeId} (h:Box w p cs T) (k:PenGo R w w' v v') (ha:Apart R v p):Box w' p cs T:=h.farS k.far (by
 rintro (h1|h1)
 ·exact ha.1 h1
 ·exact ha.2 h1)
theorem ints_farS {S:Nat→Prop} {w w':World} {a:Option Addr} {n cap b off:Nat} {xs:List Int} (h:IntsAt w a n cap b off xs) (hf:Far S w w') (hs:0<n→¬ S b):IntsAt w' a n cap b off xs:=
 ⟨h.len,h.le,h.maxc,h.ptr,fun hn=>Nat.lt_of_lt_of_le (h.lt hn) hf.size,fun i hi=>(World.cell?_of_block (a:=⟨b,off+i,none⟩) (hf.block b (h.lt (by omega)) (hs (by omega)))).trans (h.cell i hi)⟩
theorem IntsAt.pen {R:Nat} {w w':World} {v v':Value} {a:Option Addr} {n cap b off:Nat} {xs:List Int} (h:IntsAt w a n cap b off xs) (k:PenGo R w w' v v') (ha:0<n→Apart R v b):IntsAt w' a n cap b off xs:=ints_farS h k.far (fun h0=>by
 rintro (h1|h1)
 ·exact (ha h0).1 h1
 ·exact (ha h0).2 h1)
end Gal
namespace Go.Proofs.YtchngeagnlngaaaGreatDoor
open Go.RowKit Gal
set_option maxHeartbeats 4000000
theorem PenAt.keep {w w':World} {R base:Nat} {v:Value} {xs:List Nat} (h:PenAt w R base v xs) (hb:Below w.heap.size w w'):PenAt w' R base v xs:=⟨h.1.keep hb,h.2.1.keep hb,h.2.2⟩
theorem PenAt.apart {w:World} {R base p:Nat} {v:Value} {xs:List Nat} (h:PenAt w R base v xs) (hp:w.heap.size≤p):Apart R v p:=⟨fun e=>by have:=h.1.lt;omega,fun e=>by have:=(h.2.1.base_le p e).2;omega⟩
theorem penMatrix_any (m:Mat) (a:Option Addr) (n k b o:Nat) (xs:List Nat) (v:Value) (R base:Nat) (w:World) (hm:IntsAt w a n k b o m.cells) (hf:m.fault=0) (hp:PenAt w R base v xs) (hne:0<n→Apart R v b) (hlen:xs.length≤500000) (hbase:base≤w.heap.size) :
  Calls Tryz.prog 28 #[.pointer (some ⟨R,0,none⟩),.agg #[.int .i64 m.rows,.int .i64 m.cols,.slice a n k]] w fun e w'=>∃ v',e=.returned (.tuple #[])∧PenAt w' R base v' (xs++(matNums m).flatMap seven)∧PenGo R w w' v v':=by
 obtain ⟨⟨r0,r1⟩,⟨q0,q1⟩,hn,hE⟩:=mat_small hf
 have HL:=Lib.hid hm.len
 have hlc:n≤288:=by have:=hm.len;omega
 have HTL:Hid (∀ t,(((matNums m).take t).flatMap seven).length≤2610):=Lib.hid (matNums_take_len hf)
 have HE:Hid (∀ x ∈ m.cells,-2147483647≤x∧x≤2147483647):=Lib.hid hE
 obtain ⟨om,hom⟩:∃ om:Obj,Obj.cells #[.int .i64 m.rows,.int .i64 m.cols,.slice a n k] 41=om:=⟨_,rfl⟩
 obtain ⟨w0,hw0⟩:∃ w0,w.alloc om=w0:=⟨_,rfl⟩
 have hb0:Below w.heap.size w w0:=by rw [← hw0];exact Below.x0
 have hM0:Box w0 w.heap.size [.int .i64 m.rows,.int .i64 m.cols,.slice a n k] 41:=by rw [← hw0,← hom];exact Box.new' _ _ [.int .i64 m.rows,.int .i64 m.cols,.slice a n k] _ rfl
 have hap:=hp.apart (Nat.le_refl _)
 have hp0:=hp.keep hb0
 have hm0:=hm.keep hb0
 have hs0:base≤w0.heap.size:=Nat.le_trans hbase hb0.size
 have HW0:=Lib.hid hw0
 have HOM:=Lib.hid hom
 clear hw0 hom hE hf hn hp hm
 have c0:=hM0.cell 0
 go_enter Tryz.func28,Tryz.ntmps28
 go_wp2_with fail
 rw [HOM.out,HW0.out]
 refine (penNumber_any xs m.rows v R base w0 ⟨r0,by omega⟩ hp0 (by omega) hs0).mono ?_
 rintro e w1 ⟨v1,rfl,hp1,hg1⟩
 have hM1:=hM0.pen hg1 hap
 have hm1:=hm0.pen hg1 hne
 have hap1:=hg1.apart hap (by have:=hM0.lt;exact this)
 have hne1:0<n→Apart R v1 b:=fun h0=>hg1.apart (hne h0) (hm0.lt h0)
 have hs1:base≤w1.heap.size:=Nat.le_trans hs0 hg1.far.size
 have hsv:=seven_9 (x:=m.rows.toNat) (by omega)
 have c1:=hM1.cell 1
 clear c0 hp0 hM0 hm0 hap hne
 go_wp2_with fail
 refine (penNumber_any _ m.cols v1 R base w1 ⟨q0,by omega⟩ hp1 (by rw [List.length_append];omega) hs1).mono ?_
 rintro e w2 ⟨v2,rfl,hp2,hg2⟩
 have hM2:=hM1.pen hg2 hap1
 have hm2:=hm1.pen hg2 hne1
 have hne2:0<n→Apart R v2 b:=fun h0=>hg2.apart (hne1 h0) (hm1.lt h0)
 have hs2:base≤w2.heap.size:=Nat.le_trans hs1 hg2.far.size
 have hgo:=(PenGo.pre hb0 hg1).trans hg2
 have c2:=hM2.cell 2
 have HP2:Hid (PenAt w2 R base v2 (xs++((matNums m).take (2+0)).flatMap seven)):=Lib.hid (by
  have:((matNums m).take (2+0)).flatMap seven=seven m.rows.toNat++seven m.cols.toNat:=by
   unfold matNums
   simp
  rw [this,← List.append_assoc]
  exact hp2)
 clear c1 hp1 hM1 hm1 hap1 hne1 hg1 hg2 hp2 hs1 hs0
 go_wp2
 go_loopw [17] (fun i wr=>∃ (t:Nat) (u:Value),t≤n∧i=.int .i64 t∧PenAt wr R base u (xs++((matNums m).take (2+t)).flatMap seven)∧PenGo R w2 wr v2 u) (fun i _=>n - (intOf i).toNat)
 case atStart=>exact ⟨0,v2,Nat.zero_le _,rfl,HP2.out,PenGo.refl _ _ _⟩
 case round=>
  clear hM2 c2
  obtain ⟨t,u,ht,rfl,hpr,hgr⟩:=hrel
  have hsr:base≤wr.heap.size:=Nat.le_trans hs2 hgr.far.size
  by_cases hlt:t<n
  ·have cx:=(hm2.pen hgr hne2).cell t hlt
   have hz:=HE.out (ix m.cells t) (by
    have:m.cells[t]?=some (ix m.cells t):=by unfold ix;rw [List.getElem?_eq_getElem (by rw [HL.out];exact hlt)];rfl
    exact List.mem_of_getElem? this)
   have hnx:=sevens_take (l:=matNums m) (t:=2+t) (matNums_cell (by rw [HL.out];exact hlt))
   obtain ⟨x,hx⟩:∃ x,ix m.cells t=x:=⟨_,rfl⟩
   rw [hx] at cx hz hnx
   have hzl:=zig_lt hz
   obtain rfl:=hm2.ptr (by omega)
   obtain ⟨z,hze⟩:∃ z,zigOf x=z:=⟨_,rfl⟩
   obtain ⟨z1,z2⟩:=hz
   have HV:Hid ((z:Int)=if 0≤x then x*2 else -1 - x*2):=Lib.hid (by
    rw [← hze]
    unfold zigOf
    by_cases h:0≤x
    ·rw [if_pos h,if_pos h];omega
    ·rw [if_neg h,if_neg h];omega)
   rw [hze] at hnx hzl
   have HNX:=Lib.hid hnx
   have HLN:Hid ((xs++((matNums m).take (2+t)).flatMap seven).length≤1000000):=Lib.hid (by have:=HTL.out (2+t);rw [List.length_append];omega)
   clear hnx hx hze
   have hcall:=fun W=>penNumber_any (xs++((matNums m).take (2+t)).flatMap seven) (z:Int) u R base W ⟨by omega,by omega⟩
   by_cases h:0≤x
   ·have e1:=i64_xor_zero (x*2) (by omega) (by omega)
    have e2:x / 9223372036854775808=0:=by omega
    have e3:x*2=(z:Int):=by rw [HV.out,if_pos h]
    rw [e3] at e1
    have HC:=Lib.hid hcall
    clear hcall
    go_wp2_with fail
    refine (HC.out wr hpr HLN.out hsr).mono ?_
    rintro e w3 ⟨v',rfl,hp3,hg3⟩
    rw [Int.toNat_natCast,List.append_assoc,← HNX.out] at hp3
    have hgn:=hgr.trans hg3
    go_wp2
    go_roundw
    case rel=>exact ⟨t+1,v',by omega,by go_num,hp3,hgn⟩
    case measure=>simp [intOf];omega
   ·have e1:=i64_not' (x*2) (by omega) (by omega)
    have e2:x / 9223372036854775808 = -1:=by omega
    have e3:-1 - x*2=(z:Int):=by rw [HV.out,if_neg h]
    rw [e3] at e1
    have HC:=Lib.hid hcall
    clear hcall
    go_wp2_with fail
    refine (HC.out wr hpr HLN.out hsr).mono ?_
    rintro e w3 ⟨v',rfl,hp3,hg3⟩
    rw [Int.toNat_natCast,List.append_assoc,← HNX.out] at hp3
    have hgn:=hgr.trans hg3
    go_wp2
    go_roundw
    case rel=>exact ⟨t+1,v',by omega,by go_num,hp3,hgn⟩
    case measure=>simp [intOf];omega
  ·obtain rfl:n=t:=by omega
   have hall:(matNums m).take (2+n)=matNums m:=List.take_of_length_le (by rw [matNums_len,HL.out];exact Nat.le_refl _)
   rw [hall] at hpr
   have hfin:=hgo.trans hgr
   go_wp2
   go_end0
   exact ⟨u,rfl,hpr,hfin⟩
end Go.Proofs.YtchngeagnlngaaaGreatDoor
end
section
namespace Gal
open Go Go.RowKit
def q4 (l:Lay) (v:Grd):Nat→Mat|0=>l.W|1=>l.B|2=>v.W|_=>v.B
def penTo (l:Lay) (v:Grd):Nat→List Nat
 | 0=>[]
 | j+1=>penTo l v j++matNums (q4 l v j)
theorem part_pen (l:Lay) (v:Grd):partNums l v=[l.kind.toNat]++penTo l v 4:=by simp [partNums,penTo,q4]
theorem st_part {s:Sta} (h:s.fault=0) {k:Nat} (hk:k<s.N.length):1≤(lx s.N k).kind∧(lx s.N k).kind≤4∧∀ j,(q4 (lx s.N k) (gx s.V k) j).fault=0:=by
 obtain ⟨_,_,_,h1,h2⟩:=Sta.fault_ok h
 obtain ⟨e1,e2,e3,e4,_⟩:=Lay.fault_ok (h1 k hk)
 obtain ⟨g1,g2,_⟩:=h2.2 k hk
 refine ⟨e1,e2,fun j=>?_⟩
 match j with
 | 0=>exact e3
 | 1=>exact e4
 | 2=>exact g1
 | j+3=>exact g2
theorem matNums_len_all {m:Mat} (h:m.fault=0):((matNums m).flatMap seven).length≤2610:=by
 have:=matNums_take_len h (matNums m).length
 rwa [List.take_length] at this
theorem penTo_len {l:Lay} {v:Grd} (h:∀ j,(q4 l v j).fault=0):∀ j,((penTo l v j).flatMap seven).length≤2610*j
 | 0=>by simp [penTo]
 | j+1=>by
  have h1:=penTo_len h j
  have h2:=matNums_len_all (h j)
  rw [penTo,List.flatMap_append,List.length_append]
  omega
theorem netNums_len {s:Sta} (h:s.fault=0):∀ k,k≤s.N.length→((netNums s.N s.V k).flatMap seven).length≤10449*k
 | 0,_=>by simp [netNums]
 | k+1,hk=>by
  have h1:=netNums_len h k (by omega)
  obtain ⟨e1,e2,e3⟩:=st_part h (k:=k) (by omega)
  have h2:=penTo_len e3 4
  have h3:=seven_9 (x:=(lx s.N k).kind.toNat) (by omega)
  rw [netNums,part_pen,List.flatMap_append,List.flatMap_append,List.length_append,List.length_append]
  simp only [List.flatMap_cons,List.flatMap_nil,List.append_nil]
  omega
def headOf (s:Sta):List Nat:=[71,1]++seven s.steps.toNat++seven s.N.length
theorem headOf_len {s:Sta} (h:s.fault=0):(headOf s).length≤20:=by
 obtain ⟨h1,h2,h3,_⟩:=Sta.fault_ok h
 have e1:=seven_9 (x:=s.steps.toNat) (by omega)
 have e2:=seven_9 (x:=s.N.length) (by omega)
 unfold headOf
 simp only [List.length_append,List.length_cons,List.length_nil]
 omega
theorem staBytes_is (s:Sta):staBytes s=withSums (headOf s++(netNums s.N s.V s.N.length).flatMap seven):=by
 unfold staBytes staNums headOf
 simp
theorem netNums_next (N:List Lay) (V:List Grd) (k:Nat) (H:List Nat):(H++(netNums N V k).flatMap seven++seven (lx N k).kind.toNat)++(penTo (lx N k) (gx V k) 4).flatMap seven=H++(netNums N V (k+1)).flatMap seven:=by
 rw [netNums,part_pen]
 simp
/-! ### a pen's row, whatever was put behind it -/
theorem PenGo.store {R:Nat} {w wr w1 w':World} {v u v':Value} (h:PenGo R w wr v u) (h1:Below wr.heap.size wr w1) (hg:w1.grownBy w' u.ownBlock) (hl:∀ g,v'.ownBlock=some g→u.ownBlock=some g∨wr.heap.size≤g) (x:Value):PenGo R w (w'.setCell ⟨R,0,none⟩ x) v v':=by
 refine ⟨((h.far.go h1).grown hg fun k hk hlt=>?_).st (fun _=>Or.inl rfl) x,fun q hq=>?_⟩
 ·rcases h.own k hk with h2|h2
  ·exact Or.inr h2
  ·omega
 ·rcases hl q hq with h2|h2
  ·exact h.own q h2
  ·exact Or.inr (Nat.le_trans h.far.size h2)
theorem pen_store {α:Type} {f:Form α} {E T:TypeId} {R base:Nat} {wr w1 w':World} {u v':Value} {ys:List α} (hB:Box wr R [u] T) (hne:u.ownBlock≠some R) (h1:Below wr.heap.size wr w1) (hg:w1.grownBy w' u.ownBlock) (hl:∀ g,v'.ownBlock=some g→u.ownBlock=some g∨wr.heap.size≤g)
  (hown:OwnRow f E w' base noK v' ys) :
  Box (w'.setCell ⟨R,0,none⟩ v') R [v'] T∧OwnRow f E (w'.setCell ⟨R,0,none⟩ v') base noK v' ys∧v'.ownBlock≠some R:=by
 have hn:v'.ownBlock≠some R:=fun e=>by
  rcases hl R e with h2|h2
  ·exact hne h2
  ·have:=hB.lt;omega
 have h2:Box w' R [u] T:=(hB.keep h1).grown hg (fun e=>hne e.symm)
 exact ⟨h2.set 0 _,hown.set hn (fun hh=>hh.elim) _,hn⟩
theorem flat_bytes {w:World} {F:Nat→Prop}:∀ xs:List Nat,(∀ x ∈ xs,x<256)→Flat Form.u8 w F (xs.map fun (x:Nat)=>Value.int .u8 (x:Int)) xs
 | [],_=>rfl
 | x :: xs,h=>⟨[.int .u8 (x:Int)],xs.map fun (x:Nat)=>Value.int .u8 (x:Int),rfl,⟨rfl,h x (by simp)⟩,flat_bytes xs fun y hy=>h y (by simp [hy])⟩
theorem own_bytes {E:TypeId} {w:World} {base b:Nat} {F:Nat→Prop} {xs:List Nat} (h:Box w b (xs.map fun (x:Nat)=>Value.int .u8 (x:Int)) E) (hx:∀ x ∈ xs,x<256) (hb:base≤b) (hl:xs.length≤maxLen):OwnRow Form.u8 E w base F (.slice (some ⟨b,0,none⟩) xs.length xs.length) xs:=
 ⟨xs.map fun (x:Nat)=>Value.int .u8 (x:Int),⟨by simp [Form.u8],Or.inr ⟨b,xs.length,(xs.map fun (x:Nat)=>Value.int .u8 (x:Int)).toArray,rfl,hb,h,Nat.le_refl _,hl,by simp [Form.u8],by show List.take (xs.length*1) (xs.map _)=_;rw [Nat.mul_one];exact List.take_of_length_le (by simp)⟩⟩,flat_bytes xs hx⟩
end Gal
end
section
namespace Gal
/-! ### how long -/
theorem sevens_le {n:Nat} (hn:0<n):∀ {l:List Nat},(∀ x ∈ l,x<128 ^ n)→(l.flatMap seven).length≤n*l.length
 | [],_=>by simp
 | x :: l,h=>by
  have h1:=seven_len (h x (by simp)) hn
  have h2:=sevens_le hn (l:=l) fun y hy=>h y (by simp [hy])
  rw [List.flatMap_cons,List.length_append,List.length_cons,Nat.mul_succ]
  omega
theorem mat5 {m:Mat} (h:m.fault=0):((matNums m).flatMap seven).length≤1450:=by
 have h1:=sevens_le (n:=5) (by decide) (l:=matNums m) fun x hx=>by
  have:=matNums_lt h x hx
  have e:(128:Nat) ^ 5=34359738368:=by decide
  omega
 rw [matNums_len] at h1
 have:=(mat_small h).2.2.1
 omega
theorem pen5 {l:Lay} {v:Grd} (h:∀ j,(q4 l v j).fault=0):∀ j,((penTo l v j).flatMap seven).length≤1450*j
 | 0=>by simp [penTo]
 | j+1=>by
  have h1:=pen5 h j
  have h2:=mat5 (h j)
  rw [penTo,List.flatMap_append,List.length_append]
  omega
theorem net5 {s:Sta} (h:s.fault=0):∀ k,k≤s.N.length→((netNums s.N s.V k).flatMap seven).length≤5809*k
 | 0,_=>by simp [netNums]
 | k+1,hk=>by
  have h1:=net5 h k (by omega)
  obtain ⟨e1,e2,e3⟩:=st_part h (k:=k) (by omega)
  have h2:=pen5 e3 4
  have h3:=seven_9 (x:=(lx s.N k).kind.toNat) (by omega)
  rw [netNums,part_pen,List.flatMap_append,List.flatMap_append,List.length_append,List.length_append]
  simp only [List.flatMap_cons,List.flatMap_nil,List.append_nil]
  omega
theorem staBytes_le {s:Sta} (h:s.fault=0):(staBytes s).length≤100000:=by
 have h0:=(Sta.fault_ok h).1
 have h1:=net5 h s.N.length (Nat.le_refl _)
 have h2:=headOf_len h
 rw [staBytes_is]
 unfold withSums
 rw [List.length_append,List.length_append]
 simp only [List.length_cons,List.length_nil]
 omega
/-! ### read back -/
theorem mat_write {m:Mat} (h:m.fault=0) (pre post:List Nat):matRd (pre++(matNums m).flatMap seven++post) pre.length=some (m,pre.length+((matNums m).flatMap seven).length):=by
 obtain ⟨h4,h5,_,h7⟩:=mat_small h
 have h6:=(matFault_0 (show matFault m.rows m.cols m.cells=0 from h)).2.2.1
 have hrc:m.rows.toNat*m.cols.toNat=m.cells.length:=by
  have:((m.rows.toNat*m.cols.toNat:Nat):Int)=(m.cells.length:Int):=by
   rw [h6,Int.natCast_mul,Int.toNat_of_nonneg h4.1,Int.toNat_of_nonneg h5.1]
  omega
 obtain ⟨C,hC⟩:∃ C,m.cells.map zigOf=C:=⟨_,rfl⟩
 have hCl:C.length=m.cells.length:=by rw [← hC,List.length_map]
 have hN:(matNums m).flatMap seven=seven m.rows.toNat++(seven m.cols.toNat++C.flatMap seven):=by
  unfold matNums
  rw [hC]
  simp
 unfold matRd
 rw [hN,show pre++(seven m.rows.toNat++(seven m.cols.toNat++C.flatMap seven))++post=pre++seven m.rows.toNat++(seven m.cols.toNat++C.flatMap seven++post) by simp,sevAt_write (by omega)]
 dsimp only
 rw [show pre++seven m.rows.toNat++(seven m.cols.toNat++C.flatMap seven++post)=(pre++seven m.rows.toNat)++seven m.cols.toNat++(C.flatMap seven++post) by simp,show pre.length+(seven m.rows.toNat).length=(pre++seven m.rows.toNat).length by simp,sevAt_write (by omega)]
 dsimp only
 rw [if_neg (by omega),hrc,← hCl,show (pre++seven m.rows.toNat)++seven m.cols.toNat++(C.flatMap seven++post)=(pre++seven m.rows.toNat++seven m.cols.toNat)++C.flatMap seven++post by simp,show (pre++seven m.rows.toNat).length+(seven m.cols.toNat).length=(pre++seven m.rows.toNat++seven m.cols.toNat).length by simp [Nat.add_assoc],readN_write (fun x hx=>by
  rw [← hC] at hx
  obtain ⟨y,hy,rfl⟩:=List.mem_map.1 hx
  have:=zig_lt (h7 y hy)
  omega)]
 dsimp only
 have hcs:C.map zagOf=m.cells:=by
  rw [← hC,List.map_map,List.map_congr_left (f:=zagOf ∘ zigOf) (g:=id) fun x _=>zag_zig x,List.map_id]
 rw [hcs,Int.toNat_of_nonneg h4.1,Int.toNat_of_nonneg h5.1]
 simp only [List.length_append]
 congr 2
 omega
theorem part_write {l:Lay} {v:Grd} (hk:1≤l.kind∧l.kind≤4) (hW:l.W.fault=0) (hB:l.B.fault=0) (hvW:v.W.fault=0) (hvB:v.B.fault=0) (pre post:List Nat) :
  partRd (pre++(partNums l v).flatMap seven++post) pre.length=some (l,v,pre.length+((partNums l v).flatMap seven).length):=by
 obtain ⟨A,hA⟩:∃ A,(matNums l.W).flatMap seven=A:=⟨_,rfl⟩
 obtain ⟨B,hB2⟩:∃ B,(matNums l.B).flatMap seven=B:=⟨_,rfl⟩
 obtain ⟨C,hC⟩:∃ C,(matNums v.W).flatMap seven=C:=⟨_,rfl⟩
 obtain ⟨D,hD⟩:∃ D,(matNums v.B).flatMap seven=D:=⟨_,rfl⟩
 have hN:(partNums l v).flatMap seven=seven l.kind.toNat++(A++(B++(C++D))):=by
  unfold partNums
  simp [hA,hB2,hC,hD]
 have w1:=mat_write hW (pre++seven l.kind.toNat) (B++(C++(D++post)))
 have w2:=mat_write hB (pre++seven l.kind.toNat++A) (C++(D++post))
 have w3:=mat_write hvW (pre++seven l.kind.toNat++A++B) (D++post)
 have w4:=mat_write hvB (pre++seven l.kind.toNat++A++B++C) post
 rw [hA] at w1
 rw [hB2] at w2
 rw [hC] at w3
 rw [hD] at w4
 simp only [List.append_assoc,List.length_append] at w1 w2 w3 w4
 have w0:=sevAt_write (pre:=pre) (x:=l.kind.toNat) (post:=A++(B++(C++(D++post)))) (by omega)
 simp only [List.append_assoc] at w0
 unfold partRd
 rw [hN]
 simp only [List.append_assoc,List.length_append]
 rw [w0]
 dsimp only
 rw [w1]
 dsimp only
 rw [show pre.length+(seven l.kind.toNat).length+A.length=pre.length+((seven l.kind.toNat).length+A.length) by omega,w2]
 dsimp only
 rw [show pre.length+((seven l.kind.toNat).length+A.length)+B.length=pre.length+((seven l.kind.toNat).length+(A.length+B.length)) by omega,w3]
 dsimp only
 rw [show pre.length+((seven l.kind.toNat).length+(A.length+B.length))+C.length=pre.length+((seven l.kind.toNat).length+(A.length+(B.length+C.length))) by omega,w4]
 dsimp only
 rw [Int.toNat_of_nonneg (by omega)]
 congr 3
 omega
theorem netNums_split (N:List Lay) (V:List Grd) (k:Nat):∀ m,∃ r,netNums N V (k+m)=netNums N V k++r
 | 0=>⟨[],by simp⟩
 | m+1=>by
  obtain ⟨r,hr⟩:=netNums_split N V k m
  refine ⟨r++partNums (lx N (k+m)) (gx V (k+m)),?_⟩
  rw [← Nat.add_assoc,netNums,hr,List.append_assoc]
theorem lays_write {s:Sta} (h:s.fault=0) (pre post:List Nat):∀ k,k≤s.N.length→laysRd (pre++(netNums s.N s.V s.N.length).flatMap seven++post) pre.length k=some (s.N.take k,s.V.take k,pre.length+((netNums s.N s.V k).flatMap seven).length)
 | 0,_=>by simp [laysRd,netNums]
 | k+1,hk=>by
  obtain ⟨_,_,_,h1,h2⟩:=Sta.fault_ok h
  obtain ⟨e1,e2,e3,e4,_⟩:=Lay.fault_ok (h1 k (by omega))
  obtain ⟨g1,g2,_⟩:=h2.2 k (by omega)
  rw [laysRd,lays_write h pre post k (by omega)]
  dsimp only
  obtain ⟨r,hr⟩:=netNums_split s.N s.V (k+1) (s.N.length - (k+1))
  rw [show k+1+(s.N.length - (k+1))=s.N.length by omega,netNums] at hr
  have hw:=part_write (l:=lx s.N k) (v:=gx s.V k) ⟨e1,e2⟩ e3 e4 g1 g2 (pre++(netNums s.N s.V k).flatMap seven) (r.flatMap seven++post)
  rw [hr]
  simp only [List.flatMap_append,List.append_assoc,List.length_append] at hw ⊢
  rw [hw]
  dsimp only
  rw [netNums]
  simp only [List.flatMap_append,List.length_append]
  have t1:s.N.take (k+1)=s.N.take k++[lx s.N k]:=by rw [List.take_add_one,lx_get (by omega)];rfl
  have t2:s.V.take (k+1)=s.V.take k++[gx s.V k]:=by rw [List.take_add_one,gx_get (by have:=h2.1;omega)];rfl
  rw [t1,t2]
  congr 3
  omega
theorem body_write {s:Sta} (h:s.fault=0):bodyRd ([71,1]++(staNums s).flatMap seven)=some s:=by
 obtain ⟨h1,h2,h3,_,h5⟩:=Sta.fault_ok h
 have hN:[71,1]++(staNums s).flatMap seven=[71,1]++seven s.steps.toNat++(seven s.N.length++(netNums s.N s.V s.N.length).flatMap seven):=by
  unfold staNums
  simp
 have w1:=sevAt_write (pre:=[71,1]++seven s.steps.toNat) (x:=s.N.length) (post:=(netNums s.N s.V s.N.length).flatMap seven) (by omega)
 have w2:=lays_write h ([71,1]++seven s.steps.toNat++seven s.N.length) [] s.N.length (Nat.le_refl _)
 unfold bodyRd
 rw [hN]
 have w0:=sevAt_write (pre:=[71,1]) (x:=s.steps.toNat) (post:=seven s.N.length++(netNums s.N s.V s.N.length).flatMap seven) (by omega)
 rw [show ([71,1]:List Nat).length=2 from rfl] at w0
 rw [w0]
 dsimp only
 rw [show 2+(seven s.steps.toNat).length=([71,1]++seven s.steps.toNat).length by simp;omega,show [71,1]++seven s.steps.toNat++(seven s.N.length++(netNums s.N s.V s.N.length).flatMap seven)=[71,1]++seven s.steps.toNat++seven s.N.length++(netNums s.N s.V s.N.length).flatMap seven by simp,w1]
 dsimp only
 rw [if_neg (by omega)]
 rw [List.append_nil] at w2
 have hl2:(([71,1]++seven s.steps.toNat:List Nat)).length+(seven s.N.length).length=(([71,1]++seven s.steps.toNat++seven s.N.length:List Nat)).length:=(List.length_append).symm
 rw [hl2,w2]
 dsimp only
 rw [List.take_length,show s.V.take s.N.length=s.V by rw [← h5.1,List.take_length],Int.toNat_of_nonneg h2]
 rw [if_neg]
 rintro (q|q)
 ·exact q (by simp only [List.length_append])
 ·exact q h
theorem sta_back {s:Sta} (h:s.fault=0):staRd (staBytes s)=some s:=by
 obtain ⟨L,hL⟩:∃ L,[71,1]++(staNums s).flatMap seven=L:=⟨_,rfl⟩
 have hb:staBytes s=L++[(prgSums L).1,(prgSums L).2]:=by unfold staBytes withSums;rw [hL]
 have hw:=body_write h
 rw [hL] at hw
 have hlen:(staBytes s).length=L.length+2:=by rw [hb,List.length_append];rfl
 have h4:4≤L.length:=by
  rw [← hL]
  have e1:=seven_pos s.steps.toNat
  have e2:=seven_pos s.N.length
  unfold staNums
  simp only [List.flatMap_append,List.flatMap_cons,List.flatMap_nil,List.append_nil,List.length_append,List.length_cons,List.length_nil]
  omega
 have ht:(staBytes s).take ((staBytes s).length - 2)=L:=by rw [hlen,hb,Nat.add_sub_cancel,List.take_left]
 unfold staRd
 rw [if_pos,ht,hw]
 unfold headOk
 rw [ht]
 refine ⟨by omega,staBytes_le h,?_,?_,?_,?_⟩
 ·rw [hb,← hL];rfl
 ·rw [hb,← hL];rfl
 ·rw [hlen,Nat.add_sub_cancel,hb,List.getElem?_append_right (Nat.le_refl _)];simp
 ·rw [hlen,show L.length+2 - 1=L.length+1 by omega,hb,List.getElem?_append_right (by omega)];simp
end Gal
end
section
namespace Gal
open Go Go.RowKit
structure Cells7 (w:World) (b i:Nat) (v0 v1 v2 v3 v4 v5 v6:Value):Prop where
 c0:w.cell? ⟨b,i,none⟩=some v0
 c1:w.cell? ⟨b,i+1,none⟩=some v1
 c2:w.cell? ⟨b,i+2,none⟩=some v2
 c3:w.cell? ⟨b,i+3,none⟩=some v3
 c4:w.cell? ⟨b,i+4,none⟩=some v4
 c5:w.cell? ⟨b,i+5,none⟩=some v5
 c6:w.cell? ⟨b,i+6,none⟩=some v6
section
variable {w w':World} {b i:Nat} {v0 v1 v2 v3 v4 v5 v6:Value}
theorem Cells7.keep (h:Cells7 w b i v0 v1 v2 v3 v4 v5 v6) (hb:Below w.heap.size w w'):Cells7 w' b i v0 v1 v2 v3 v4 v5 v6:=⟨cell_keep' hb h.c0,cell_keep' hb h.c1,cell_keep' hb h.c2,cell_keep' hb h.c3,cell_keep' hb h.c4,cell_keep' hb h.c5,cell_keep' hb h.c6⟩
theorem Cells7.alloc (h:Cells7 w b i v0 v1 v2 v3 v4 v5 v6) (o:Obj):Cells7 (w.alloc o) b i v0 v1 v2 v3 v4 v5 v6:=h.keep ((Below.refl w.heap.size w).alloc (Nat.le_refl _) o)
theorem Cells7.drewN (h:Cells7 w b i v0 v1 v2 v3 v4 v5 v6) (n:Nat):Cells7 (w.drewN n) b i v0 v1 v2 v3 v4 v5 v6:=⟨h.c0,h.c1,h.c2,h.c3,h.c4,h.c5,h.c6⟩
theorem Cells7.drew (h:Cells7 w b i v0 v1 v2 v3 v4 v5 v6):Cells7 w.drew b i v0 v1 v2 v3 v4 v5 v6:=⟨h.c0,h.c1,h.c2,h.c3,h.c4,h.c5,h.c6⟩
theorem Cells7.far (h:Cells7 w b i v0 v1 v2 v3 v4 v5 v6) {a:Addr} (hne:b≠a.block) (v:Value):Cells7 (w.setCell a v) b i v0 v1 v2 v3 v4 v5 v6:=
 ⟨(World.cell?_of_block (a:=⟨b,i,none⟩) (Below.heap_setCell w a v b hne)).trans h.c0,(World.cell?_of_block (a:=⟨b,i+1,none⟩) (Below.heap_setCell w a v b hne)).trans h.c1,(World.cell?_of_block (a:=⟨b,i+2,none⟩) (Below.heap_setCell w a v b hne)).trans h.c2,(World.cell?_of_block (a:=⟨b,i+3,none⟩) (Below.heap_setCell w a v b hne)).trans h.c3,(World.cell?_of_block (a:=⟨b,i+4,none⟩) (Below.heap_setCell w a v b hne)).trans h.c4,(World.cell?_of_block (a:=⟨b,i+5,none⟩) (Below.heap_setCell w a v b hne)).trans h.c5,(World.cell?_of_block (a:=⟨b,i+6,none⟩) (Below.heap_setCell w a v b hne)).trans h.c6⟩
end
end Gal
end
