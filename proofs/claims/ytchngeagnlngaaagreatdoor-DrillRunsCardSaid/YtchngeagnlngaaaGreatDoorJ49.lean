/- Texts joined: RBack. -/
import Derived.Test.YtchngeagnlngaaaGreatDoorJ47
import Derived.Test.YtchngeagnlngaaaGreatDoorJ21
import Derived.Test.YtchngeagnlngaaaGreatDoorJ48
import Derived.Test.YtchngeagnlngaaaGreatDoorJ37
import Derived.Test.YtchngeagnlngaaaGreatDoorJ29
import Derived.Test.YtchngeagnlngaaaGreatDoorJ23
import Derived.Test.YtchngeagnlngaaaGreatDoorJ24
import Derived.Test.YtchngeagnlngaaaGreatDoorJ19
import Derived.Deep.DeepCutAuto
import Derived.Deep.RegionHeld3
set_option linter.unusedVariables false
set_option linter.unusedSimpArgs false
set_option linter.unusedSectionVars false
section
namespace Gal
open Go Go.RowKit
theorem cells733r {w:World} {b c e i j:Nat} {t:TypeId} {v0 v1 v2 v3 v4 v5 v6 x y z x' y' z':Value} (h:Cells7 w b i v0 v1 v2 v3 v4 v5 v6) (m:Cells3 w c j x y z) (g:Box w e [x',y',z'] t) :
  w.cell? ⟨b,i,none⟩=some v0∧w.cell? ⟨b,i+1,none⟩=some v1∧w.cell? ⟨b,i+2,none⟩=some v2∧w.cell? ⟨b,i+3,none⟩=some v3∧w.cell? ⟨b,i+4,none⟩=some v4∧w.cell? ⟨b,i+5,none⟩=some v5∧w.cell? ⟨b,i+6,none⟩=some v6 ∧
   w.cell? ⟨c,j,none⟩=some x∧w.cell? ⟨c,j+1,none⟩=some y∧w.cell? ⟨c,j+2,none⟩=some z∧w.cell? ⟨e,0,none⟩=some x'∧w.cell? ⟨e,1,none⟩=some y'∧w.cell? ⟨e,2,none⟩=some z':=
 ⟨h.c0,h.c1,h.c2,h.c3,h.c4,h.c5,h.c6,m.c0,m.c1,m.c2,g.cell 0,g.cell 1,g.cell 2⟩
theorem cells3_6 {w:World} {b c:Nat} {t u:TypeId} {x y z v0 v1 v2 v3 v4 v5:Value} (g:Box w b [x,y,z] t) (d:Box w c [v0,v1,v2,v3,v4,v5] u) :
  w.cell? ⟨b,0,none⟩=some x∧w.cell? ⟨b,1,none⟩=some y∧w.cell? ⟨b,2,none⟩=some z∧w.cell? ⟨c,0,none⟩=some v0∧w.cell? ⟨c,1,none⟩=some v1∧w.cell? ⟨c,2,none⟩=some v2∧w.cell? ⟨c,3,none⟩=some v3∧w.cell? ⟨c,4,none⟩=some v4∧w.cell? ⟨c,5,none⟩=some v5:=
 ⟨g.cell 0,g.cell 1,g.cell 2,d.cell 0,d.cell 1,d.cell 2,d.cell 3,d.cell 4,d.cell 5⟩
theorem run_of_box {P:Program} {fn:Func} {ts:Array Value} {v:Value} {w:World} {b:Nat} {cs:List Value} {t:TypeId} (h:Box w b cs t) (k:Box w b cs t→(results fn ts).run P w=.ok v w):(results fn ts).run P w=.ok v w:=k h
def MatApart (base:Nat) (w:World) (u v:Value) (m:Mat):Prop:=∃ a n k b o,u=.agg #[.int .i64 m.rows,.int .i64 m.cols,.slice a n k]∧(0<n→base≤b∧v.ownBlock≠some b)∧IntsAt w a n k b o m.cells
theorem RowAt.take {α:Type} {f:Form α} {w:World} {F:Nat→Prop} {a:Option Addr} {n cap b off m:Nat} {xs:List α} (h:RowAt f w F a n cap b off xs) (hm:m≤n):RowAt f w F a m cap b off (xs.take m) where
 len:=by rw [List.length_take,h.len];omega
 le:=Nat.le_trans hm h.le
 maxc:=h.maxc
 ptr:=fun h0=>h.ptr (by omega)
 lt:=fun h0=>h.lt (by omega)
 blk:=fun h0=>h.blk (by omega)
 cell:=fun i x hx=>h.cell i x (by rw [List.getElem?_take] at hx;split at hx;exact hx;cases hx)
theorem OwnRow.low {α:Type} {f:Form α} {E:TypeId} {w:World} {base base':Nat} {F:Nat→Prop} {v:Value} {xs:List α} (h:OwnRow f E w base F v xs) (hb:base'≤base):OwnRow f E w base' F v xs:=by
 obtain ⟨cs,⟨h1,h2⟩,h3⟩:=h.holds
 refine ⟨cs,⟨h1,?_⟩,h3⟩
 rcases h2 with h2|⟨g,cap,cur,e1,e2,e3⟩
 ·exact Or.inl h2
 ·exact Or.inr ⟨g,cap,cur,e1,by omega,e3⟩
end Gal
namespace Go.Proofs.YtchngeagnlngaaaGreatDoor
open Go.RowKit Gal
set_option maxRecDepth 100000
set_option maxHeartbeats 4000000
section
variable (ls:List Lay) (ss:List Mat) (L:Lay) (M g:Mat) (F G:Nat→Prop) (a0 a1 ag:Option Addr) (k N n1 ng k0 k1 kg b0 b1 bg o0 o1 og:Nat) (w:World) (hk:N=k+1) (hN:N≤12) (hn1:n1=N+1) (h0:RowAt Form.lay w F a0 N k0 b0 o0 ls) (h1:RowAt Form.mat w G a1 n1 k1 b1 o1 ss) (hg:IntsAt w ag ng kg bg og g.cells) (hL:L=lx ls k) (hM:M=mx ss k)
include hL hM hk hN hn1 h0 h1 hg
theorem refNetBack_bad (hf:L.backFault M g≠0) :
  Calls Tryz.prog 46 #[.slice a0 N k0,.slice a1 n1 k1,.agg #[.int .i64 g.rows,.int .i64 g.cols,.slice ag ng kg]] w
  fun e w'=>e=.returned (.tuple #[.agg #[.int .i64 0,.int .i64 0,.slice none 0 0],.slice none 0 0,.int .i64 (L.backFault M g)])∧Below w.heap.size w w':=by
 have HF:=Lib.hid hf
 clear hf
 obtain rfl:=h0.ptr (by omega)
 obtain rfl:=h1.ptr (by omega)
 obtain ⟨a4,n4,k4,b4,o4,a5,n5,k5,b5,o5,c0,c1,c2,c3,c4,c5,c6,y4,y5⟩:=lay_cells h0 (show k<N by omega)
 obtain ⟨am,nm,km,bm,om,m0,m1,m2,_,ym⟩:=h1.mats.cell k (by omega)
 have hlb0:=h0.lt (by omega)
 have hlb1:=h1.lt (by omega)
 have e1:((N:Int) > 12)=False:=by simp;omega
 have e2:((n1:Int) != wrap64 ((N:Int)+1))=false:=by simp [wrap64];omega
 have e3:((N:Int) == 0)=false:=by simp;omega
 have e4:wrap64 ((N:Int) - 1)=(k:Int):=by unfold wrap64;omega
 have e5:(0:Int)≤(k:Int):=by omega
 have e6:(k:Int)<(N:Int):=by omega
 have e7:(k:Int)<(n1:Int):=by omega
 rw [← hL] at c0 c1 c2 c4 c5 y4 y5
 rw [← hM] at m0 m1 ym
 have HK:=Lib.hid hk
 have HN:=Lib.hid hN
 clear hL hM hk hN hn1
 skip
 have CL:Cells7 w b0 (o0+k*7) _ _ _ _ _ _ _:=⟨c0,c1,c2,c3,c4,c5,c6⟩
 have CM:Cells3 w b1 (o1+k*3) _ _ _:=⟨m0,m1,m2⟩
 clear c0 c1 c2 c3 c4 c5 c6 m0 m1 m2
 go_enter Tryz.func46,Tryz.ntmps46
 go_wp2_with fail
 obtain ⟨w1,hw1,B5,B6,CL1,CM1,z4,z5,zm,zg,hb1⟩:∃ w1,(w.alloc (.cells #[.int .i64 g.rows,.int .i64 g.cols,.slice ag ng kg] 41)).alloc (.cells #[.int .i64 0,.int .i64 0,.slice none 0 0] 41)=w1∧Box w1 w.heap.size [.int .i64 g.rows,.int .i64 g.cols,.slice ag ng kg] 41∧Box w1 (w.heap.size+1) [.int .i64 0,.int .i64 0,.slice none 0 0] 41 ∧
   Cells7 w1 b0 (o0+k*7) (.int .i64 L.kind) (.int .i64 L.W.rows) (.int .i64 L.W.cols) (.slice a4 n4 k4) (.int .i64 L.B.rows) (.int .i64 L.B.cols) (.slice a5 n5 k5)∧Cells3 w1 b1 (o1+k*3) (.int .i64 M.rows) (.int .i64 M.cols) (.slice am nm km)∧IntsAt w1 a4 n4 k4 b4 o4 L.W.cells∧IntsAt w1 a5 n5 k5 b5 o5 L.B.cells∧IntsAt w1 am nm km bm om M.cells∧IntsAt w1 ag ng kg bg og g.cells∧Below w.heap.size w w1:=
  ⟨_,rfl,Box.x0,Box.x0,(by repeat (first|(with_reducible first|exact CL|refine Cells7.alloc ?_ _|refine Cells7.drewN ?_ _|refine Cells7.drew ?_|(refine Cells7.far ?_ ?_ _;rotate_left 1;(first|(dsimp only;omega)|omega|(simp;omega)|simp)))|exact CL)),(by repeat (first|(with_reducible first|exact CM|refine Cells3.alloc ?_ _|refine Cells3.drewN ?_ _|refine Cells3.drew ?_|(refine Cells3.far ?_ ?_ _;rotate_left 1;(first|(dsimp only;omega)|omega|(simp;omega)|simp)))|exact CM)),y4.k,y5.k,ym.k,hg.k,Below.x0⟩
 rw [hw1]
 clear hw1 CL CM y4 y5 ym hg
 have B5:=B5
 have B5c:=B5.cell
 have B5f:=B5.thawed
 have B5z:=B5.lt
 have B5k:=lt_add B5z
 have B6:=B6
 have B6c:=B6.cell
 have B6f:=B6.thawed
 have B6z:=B6.lt
 have B6k:=lt_add B6z
 go_region_held3 (fun w'=>w'.cell? ⟨b0,o0+k*7,none⟩=some (.int .i64 L.kind)∧w'.cell? ⟨b0,o0+k*7+1,none⟩=some (.int .i64 L.W.rows)∧w'.cell? ⟨b0,o0+k*7+2,none⟩=some (.int .i64 L.W.cols)∧w'.cell? ⟨b0,o0+k*7+3,none⟩=some (.slice a4 n4 k4)∧w'.cell? ⟨b0,o0+k*7+4,none⟩=some (.int .i64 L.B.rows)∧w'.cell? ⟨b0,o0+k*7+5,none⟩=some (.int .i64 L.B.cols)∧w'.cell? ⟨b0,o0+k*7+6,none⟩=some (.slice a5 n5 k5)∧w'.cell? ⟨b1,o1+k*3,none⟩=some (.int .i64 M.rows)∧w'.cell? ⟨b1,o1+k*3+1,none⟩=some (.int .i64 M.cols)∧w'.cell? ⟨b1,o1+k*3+2,none⟩=some (.slice am nm km)∧w'.cell? ⟨w.heap.size,0,none⟩=some (.int .i64 g.rows)∧w'.cell? ⟨w.heap.size,1,none⟩=some (.int .i64 g.cols)∧w'.cell? ⟨w.heap.size,2,none⟩=some (.slice ag ng kg)) (exact cells733r (t:=41) (by repeat (first|(with_reducible first|exact CL1|refine Cells7.alloc ?_ _|refine Cells7.drewN ?_ _|refine Cells7.drew ?_|(refine Cells7.far ?_ ?_ _;rotate_left 1;(first|(dsimp only;omega)|omega|(simp;omega)|simp))|refine Cells7.keep ?_ hb7)|exact CL1)) (by repeat (first|(with_reducible first|exact CM1|refine Cells3.alloc ?_ _|refine Cells3.drewN ?_ _|refine Cells3.drew ?_|(refine Cells3.far ?_ ?_ _;rotate_left 1;(first|(dsimp only;omega)|omega|(simp;omega)|simp))|refine Cells3.keep ?_ hb7)|exact CM1)) (by first|exact B5.k1 hb7|exact B5.k)) ((go_at_call 76;go_must (refine (refBackFault_any L M g _ _ _ _ ⟨_,_,_,_,_,_,_,_,_,_,rfl,(show IntsAt _ a4 n4 k4 b4 o4 L.W.cells from z4.k),(show IntsAt _ a5 n5 k5 b5 o5 L.B.cells from z5.k)⟩ (MatAt.mk (show IntsAt _ am nm km bm om M.cells from zm.k)) (MatAt.mk (show IntsAt _ ag ng kg bg og g.cells from zg.k))).mono ?_);skip;go_must (rintro e w7 ⟨rfl,hb7⟩)))
 have hc7:Below w1.heap.size w1 w7:=(Below.x1 hb7)
 replace CL1:=CL1.keep hc7
 have hkw7:Below w1.heap.size w1 w7:=(Below.x1 hc7)
 replace B5:=B5.keep hkw7
 replace B5c:=B5.cell
 replace B5f:=B5.thawed
 replace B5z:=B5.lt
 replace B5k:=lt_add B5z
 replace B6:=B6.keep hkw7
 replace B6c:=B6.cell
 replace B6f:=B6.thawed
 replace B6z:=B6.lt
 replace B6k:=lt_add B6z
 replace z4:=z4.keep hkw7
 replace z5:=z5.keep hkw7
 replace zm:=zm.keep hkw7
 replace zg:=zg.keep hkw7
 replace CM1:=CM1.keep hc7
 have hbw7:Below w.heap.size w w7:=(Below.y1 hc7 hb1)
 have e8:(L.backFault M g != 0)=true:=by simp [HF.out]
 clear B5 B5c B5f B5z B5k z4 z5 zm zg CL1 CM1
 go_wp2_with fail
 exact bodyPost_ret (v:=.tuple #[.agg #[.int .i64 0,.int .i64 0,.slice none 0 0],.slice none 0 0,.int .i64 (L.backFault M g)]) (by simp [results,Tryz.results46,go_sem,B6c]) rfl ⟨rfl,(Below.y0 hbw7)⟩
theorem refNetBack_one (hf:L.backFault M g=0) (hkz:k=0) :
  Calls Tryz.prog 46 #[.slice a0 N k0,.slice a1 n1 k1,.agg #[.int .i64 g.rows,.int .i64 g.cols,.slice ag ng kg]] w
  fun e w'=>∃ u v,e=.returned (.tuple #[u,v,.int .i64 0])∧Below w.heap.size w w'∧MatApart w.heap.size w' u v (L.back M g)∧OwnRow Form.grd 86 w' w.heap.size (newB w.heap.size) v [L.grad M g]:=by
 have HF:=Lib.hid hf
 have HKZ:=Lib.hid hkz
 clear hf hkz
 obtain rfl:=h0.ptr (by omega)
 obtain rfl:=h1.ptr (by omega)
 obtain ⟨a4,n4,k4,b4,o4,a5,n5,k5,b5,o5,c0,c1,c2,c3,c4,c5,c6,y4,y5⟩:=lay_cells h0 (show k<N by omega)
 obtain ⟨am,nm,km,bm,om,m0,m1,m2,_,ym⟩:=h1.mats.cell k (by omega)
 have hlb0:=h0.lt (by omega)
 have hlb1:=h1.lt (by omega)
 have e1:((N:Int) > 12)=False:=by simp;omega
 have e2:((n1:Int) != wrap64 ((N:Int)+1))=false:=by simp [wrap64];omega
 have e3:((N:Int) == 0)=false:=by simp;omega
 have e4:wrap64 ((N:Int) - 1)=(k:Int):=by unfold wrap64;omega
 have e5:(0:Int)≤(k:Int):=by omega
 have e6:(k:Int)<(N:Int):=by omega
 have e7:(k:Int)<(n1:Int):=by omega
 rw [← hL] at c0 c1 c2 c4 c5 y4 y5
 rw [← hM] at m0 m1 ym
 have HK:=Lib.hid hk
 have HN:=Lib.hid hN
 clear hL hM hk hN hn1
 skip
 have CL:Cells7 w b0 (o0+k*7) _ _ _ _ _ _ _:=⟨c0,c1,c2,c3,c4,c5,c6⟩
 have CM:Cells3 w b1 (o1+k*3) _ _ _:=⟨m0,m1,m2⟩
 clear c0 c1 c2 c3 c4 c5 c6 m0 m1 m2
 go_enter Tryz.func46,Tryz.ntmps46
 go_wp2_with fail
 obtain ⟨w1,hw1,B5,B6,CL1,CM1,z4,z5,zm,zg,hb1⟩:∃ w1,(w.alloc (.cells #[.int .i64 g.rows,.int .i64 g.cols,.slice ag ng kg] 41)).alloc (.cells #[.int .i64 0,.int .i64 0,.slice none 0 0] 41)=w1∧Box w1 w.heap.size [.int .i64 g.rows,.int .i64 g.cols,.slice ag ng kg] 41∧Box w1 (w.heap.size+1) [.int .i64 0,.int .i64 0,.slice none 0 0] 41 ∧
   Cells7 w1 b0 (o0+k*7) (.int .i64 L.kind) (.int .i64 L.W.rows) (.int .i64 L.W.cols) (.slice a4 n4 k4) (.int .i64 L.B.rows) (.int .i64 L.B.cols) (.slice a5 n5 k5)∧Cells3 w1 b1 (o1+k*3) (.int .i64 M.rows) (.int .i64 M.cols) (.slice am nm km)∧IntsAt w1 a4 n4 k4 b4 o4 L.W.cells∧IntsAt w1 a5 n5 k5 b5 o5 L.B.cells∧IntsAt w1 am nm km bm om M.cells∧IntsAt w1 ag ng kg bg og g.cells∧Below w.heap.size w w1:=
  ⟨_,rfl,Box.x0,Box.x0,(by repeat (first|(with_reducible first|exact CL|refine Cells7.alloc ?_ _|refine Cells7.drewN ?_ _|refine Cells7.drew ?_|(refine Cells7.far ?_ ?_ _;rotate_left 1;(first|(dsimp only;omega)|omega|(simp;omega)|simp)))|exact CL)),(by repeat (first|(with_reducible first|exact CM|refine Cells3.alloc ?_ _|refine Cells3.drewN ?_ _|refine Cells3.drew ?_|(refine Cells3.far ?_ ?_ _;rotate_left 1;(first|(dsimp only;omega)|omega|(simp;omega)|simp)))|exact CM)),y4.k,y5.k,ym.k,hg.k,Below.x0⟩
 rw [hw1]
 clear hw1 CL CM y4 y5 ym hg
 have B5:=B5
 have B5c:=B5.cell
 have B5f:=B5.thawed
 have B5z:=B5.lt
 have B5k:=lt_add B5z
 have B6:=B6
 have B6c:=B6.cell
 have B6f:=B6.thawed
 have B6z:=B6.lt
 have B6k:=lt_add B6z
 go_region_held3 (fun w'=>w'.cell? ⟨b0,o0+k*7,none⟩=some (.int .i64 L.kind)∧w'.cell? ⟨b0,o0+k*7+1,none⟩=some (.int .i64 L.W.rows)∧w'.cell? ⟨b0,o0+k*7+2,none⟩=some (.int .i64 L.W.cols)∧w'.cell? ⟨b0,o0+k*7+3,none⟩=some (.slice a4 n4 k4)∧w'.cell? ⟨b0,o0+k*7+4,none⟩=some (.int .i64 L.B.rows)∧w'.cell? ⟨b0,o0+k*7+5,none⟩=some (.int .i64 L.B.cols)∧w'.cell? ⟨b0,o0+k*7+6,none⟩=some (.slice a5 n5 k5)∧w'.cell? ⟨b1,o1+k*3,none⟩=some (.int .i64 M.rows)∧w'.cell? ⟨b1,o1+k*3+1,none⟩=some (.int .i64 M.cols)∧w'.cell? ⟨b1,o1+k*3+2,none⟩=some (.slice am nm km)∧w'.cell? ⟨w.heap.size,0,none⟩=some (.int .i64 g.rows)∧w'.cell? ⟨w.heap.size,1,none⟩=some (.int .i64 g.cols)∧w'.cell? ⟨w.heap.size,2,none⟩=some (.slice ag ng kg)) (exact cells733r (t:=41) (by repeat (first|(with_reducible first|exact CL1|refine Cells7.alloc ?_ _|refine Cells7.drewN ?_ _|refine Cells7.drew ?_|(refine Cells7.far ?_ ?_ _;rotate_left 1;(first|(dsimp only;omega)|omega|(simp;omega)|simp))|refine Cells7.keep ?_ hb7)|exact CL1)) (by repeat (first|(with_reducible first|exact CM1|refine Cells3.alloc ?_ _|refine Cells3.drewN ?_ _|refine Cells3.drew ?_|(refine Cells3.far ?_ ?_ _;rotate_left 1;(first|(dsimp only;omega)|omega|(simp;omega)|simp))|refine Cells3.keep ?_ hb7)|exact CM1)) (by first|exact B5.k1 hb7|exact B5.k)) ((go_at_call 76;go_must (refine (refBackFault_any L M g _ _ _ _ ⟨_,_,_,_,_,_,_,_,_,_,rfl,(show IntsAt _ a4 n4 k4 b4 o4 L.W.cells from z4.k),(show IntsAt _ a5 n5 k5 b5 o5 L.B.cells from z5.k)⟩ (MatAt.mk (show IntsAt _ am nm km bm om M.cells from zm.k)) (MatAt.mk (show IntsAt _ ag ng kg bg og g.cells from zg.k))).mono ?_);rw [HF.out];go_must (rintro e w7 ⟨rfl,hb7⟩)))
 have hc7:Below w1.heap.size w1 w7:=(Below.x1 hb7)
 replace CL1:=CL1.keep hc7
 have hkw7:Below w1.heap.size w1 w7:=(Below.x1 hc7)
 replace B5:=B5.keep hkw7
 replace B5c:=B5.cell
 replace B5f:=B5.thawed
 replace B5z:=B5.lt
 replace B5k:=lt_add B5z
 replace B6:=B6.keep hkw7
 replace B6c:=B6.cell
 replace B6f:=B6.thawed
 replace B6z:=B6.lt
 replace B6k:=lt_add B6z
 replace z4:=z4.keep hkw7
 replace z5:=z5.keep hkw7
 replace zm:=zm.keep hkw7
 replace zg:=zg.keep hkw7
 replace CM1:=CM1.keep hc7
 have hbw7:Below w.heap.size w w7:=(Below.y1 hc7 hb1)
 go_wp2_with fail
 go_cut [12,13] (fun s12 s13 wx=>∃ p q a7 n7 k7 b7 o7 a8 n8 k8 b8 o8 a9 n9 k9 b9 o9,s12=.pointer (some ⟨p,0,none⟩)∧s13=.pointer (some ⟨q,0,none⟩)∧Box wx p [.int .i64 (L.back M g).rows,.int .i64 (L.back M g).cols,.slice a7 n7 k7] 41∧Box wx q [.int .i64 (L.grad M g).W.rows,.int .i64 (L.grad M g).W.cols,.slice a8 n8 k8,.int .i64 (L.grad M g).B.rows,.int .i64 (L.grad M g).B.cols,.slice a9 n9 k9] 86∧IntsAt wx a7 n7 k7 b7 o7 (L.back M g).cells∧IntsAt wx a8 n8 k8 b8 o8 (L.grad M g).W.cells∧IntsAt wx a9 n9 k9 b9 o9 (L.grad M g).B.cells∧(0<n7→w7.heap.size≤b7)∧(0<n8→w7.heap.size≤b8∧b8<wx.heap.size)∧(0<n9→w7.heap.size≤b9∧b9<wx.heap.size)∧w7.heap.size≤p∧w7.heap.size≤q∧Below w7.heap.size w7 wx)
 case first=>
  go_region_held3 (fun w'=>w'.cell? ⟨b0,o0+k*7,none⟩=some (.int .i64 L.kind)∧w'.cell? ⟨b0,o0+k*7+1,none⟩=some (.int .i64 L.W.rows)∧w'.cell? ⟨b0,o0+k*7+2,none⟩=some (.int .i64 L.W.cols)∧w'.cell? ⟨b0,o0+k*7+3,none⟩=some (.slice a4 n4 k4)∧w'.cell? ⟨b0,o0+k*7+4,none⟩=some (.int .i64 L.B.rows)∧w'.cell? ⟨b0,o0+k*7+5,none⟩=some (.int .i64 L.B.cols)∧w'.cell? ⟨b0,o0+k*7+6,none⟩=some (.slice a5 n5 k5)∧w'.cell? ⟨b1,o1+k*3,none⟩=some (.int .i64 M.rows)∧w'.cell? ⟨b1,o1+k*3+1,none⟩=some (.int .i64 M.cols)∧w'.cell? ⟨b1,o1+k*3+2,none⟩=some (.slice am nm km)∧w'.cell? ⟨w.heap.size,0,none⟩=some (.int .i64 g.rows)∧w'.cell? ⟨w.heap.size,1,none⟩=some (.int .i64 g.cols)∧w'.cell? ⟨w.heap.size,2,none⟩=some (.slice ag ng kg)) (exact cells733r (t:=41) (by repeat (first|(with_reducible first|exact CL1|refine Cells7.alloc ?_ _|refine Cells7.drewN ?_ _|refine Cells7.drew ?_|(refine Cells7.far ?_ ?_ _;rotate_left 1;(first|(dsimp only;omega)|omega|(simp;omega)|simp))|refine Cells7.keep ?_ hb8)|exact CL1)) (by repeat (first|(with_reducible first|exact CM1|refine Cells3.alloc ?_ _|refine Cells3.drewN ?_ _|refine Cells3.drew ?_|(refine Cells3.far ?_ ?_ _;rotate_left 1;(first|(dsimp only;omega)|omega|(simp;omega)|simp))|refine Cells3.keep ?_ hb8)|exact CM1)) (by first|exact B5.k1 hb8|exact B5.k)) ((go_at_call 77;go_must (refine (refBackOf_any L M g _ _ _ _ ⟨_,_,_,_,_,_,_,_,_,_,rfl,(show IntsAt _ a4 n4 k4 b4 o4 L.W.cells from z4.k),(show IntsAt _ a5 n5 k5 b5 o5 L.B.cells from z5.k)⟩ (MatAt.mk (show IntsAt _ am nm km bm om M.cells from zm.k)) (MatAt.mk (show IntsAt _ ag ng kg bg og g.cells from zg.k)) HF.out).mono ?_);go_must (rintro e w8 ⟨v8,d8,rfl,⟨a7,n7,k7,b7,o7,rfl,hn7,x7⟩,⟨a8,n8,k8,b8,o8,a9,n9,k9,b9,o9,rfl,hn8,x8,hn9,x9⟩,hb8⟩);(try (refine (fun (P1:Box w8 (w7.heap.size) [.int .i64 0,.int .i64 0,.slice none 0 0] 41)=>?_) ?_;rotate_left 1;(with_reducible refine Box.keep ?_ hb8);(focus ((repeat (first|(with_reducible refine (Box.new' _ (w7.heap.size) _ _ ?_);(simp;done))|(with_reducible refine Box.alloc ?_ _)|(with_reducible refine Box.drew ?_)|(with_reducible refine Box.drewN ?_ _)));done));have P1c:=P1.cell;have P1f:=P1.thawed;have P1z:=P1.lt));(try (refine (fun (P2:Box w8 (w7.heap.size) [.int .i64 0,.int .i64 0,.slice none 0 0,.int .i64 0,.int .i64 0,.slice none 0 0] 86)=>?_) ?_;rotate_left 1;(with_reducible refine Box.keep ?_ hb8);(focus ((repeat (first|(with_reducible refine (Box.new' _ (w7.heap.size) _ _ ?_);(simp;done))|(with_reducible refine Box.alloc ?_ _)|(with_reducible refine Box.drew ?_)|(with_reducible refine Box.drewN ?_ _)));done));have P2c:=P2.cell;have P2f:=P2.thawed;have P2z:=P2.lt));(try (refine (fun (P3:Box w8 (w7.heap.size+1) [.int .i64 0,.int .i64 0,.slice none 0 0] 41)=>?_) ?_;rotate_left 1;(with_reducible refine Box.keep ?_ hb8);(focus ((repeat (first|(with_reducible refine (Box.new' _ (w7.heap.size+1) _ _ ?_);(simp;done))|(with_reducible refine Box.alloc ?_ _)|(with_reducible refine Box.drew ?_)|(with_reducible refine Box.drewN ?_ _)));done));have P3c:=P3.cell;have P3f:=P3.thawed;have P3z:=P3.lt));(try (refine (fun (P4:Box w8 (w7.heap.size+1) [.int .i64 0,.int .i64 0,.slice none 0 0,.int .i64 0,.int .i64 0,.slice none 0 0] 86)=>?_) ?_;rotate_left 1;(with_reducible refine Box.keep ?_ hb8);(focus ((repeat (first|(with_reducible refine (Box.new' _ (w7.heap.size+1) _ _ ?_);(simp;done))|(with_reducible refine Box.alloc ?_ _)|(with_reducible refine Box.drew ?_)|(with_reducible refine Box.drewN ?_ _)));done));have P4c:=P4.cell;have P4f:=P4.thawed;have P4z:=P4.lt))))
  all_goals (
   go_wp2_with fail
   go_meet
   have hl8:=x8.lt
   have hl9:=x9.lt
   have hz8:=hb8.size
   simp at hn7 hn8 hn9 hz8
   have hm7:0<n7→w7.heap.size≤b7:=fun h=>by have:=hn7 h;omega
   have hm8:0<n8→w7.heap.size≤b8:=fun h=>by have:=hn8 h;omega
   have hm9:0<n9→w7.heap.size≤b9:=fun h=>by have:=hn9 h;omega
   exact ⟨_,_,a7,n7,k7,b7,o7,a8,n8,k8,b8,o8,a9,n9,k9,b9,o9,rfl,rfl,(by repeat (first|(with_reducible first|(refine (Box.new' _ _ _ _ ?_);(simp;done))|refine Box.alloc ?_ _|refine Box.drewN ?_ _|refine Box.drew ?_|refine Box.set6z ?_ _ _ _ _ _ _|refine Box.set3z ?_ _ _ _|refine Box.fx ?_ _|refine Box.keep ?_ hb8))),(by repeat (first|(with_reducible first|(refine (Box.new' _ _ _ _ ?_);(simp;done))|refine Box.alloc ?_ _|refine Box.drewN ?_ _|refine Box.drew ?_|refine Box.set6z ?_ _ _ _ _ _ _|refine Box.set3z ?_ _ _ _|refine Box.fx ?_ _|refine Box.keep ?_ hb8))),(by repeat (first|(with_reducible first|exact x7|refine IntsAt.alloc ?_ _|refine IntsAt.drewN ?_ _|refine IntsAt.drew ?_|(refine IntsAt.set ?_ ?_ _;rotate_left 1;(intro h0;have hq0:=hn7 h0;first|(dsimp only;omega)|omega|(simp;omega)|simp)))|exact x7)),(by repeat (first|(with_reducible first|exact x8|refine IntsAt.alloc ?_ _|refine IntsAt.drewN ?_ _|refine IntsAt.drew ?_|(refine IntsAt.set ?_ ?_ _;rotate_left 1;(intro h0;have hq0:=hn8 h0;first|(dsimp only;omega)|omega|(simp;omega)|simp)))|exact x8)),(by repeat (first|(with_reducible first|exact x9|refine IntsAt.alloc ?_ _|refine IntsAt.drewN ?_ _|refine IntsAt.drew ?_|(refine IntsAt.set ?_ ?_ _;rotate_left 1;(intro h0;have hq0:=hn9 h0;first|(dsimp only;omega)|omega|(simp;omega)|simp)))|exact x9)),hm7,(fun h=>⟨hm8 h,by have:=hl8 h;simp;omega⟩),(fun h=>⟨hm9 h,by have:=hl9 h;simp;omega⟩),(by first|exact Nat.le_refl _|(simp;omega)|omega),(by first|exact Nat.le_refl _|(simp;omega)|omega),(Below.x1 hb8)⟩)
 case rest=>
 obtain ⟨p,q,a7,n7,k7,b7,o7,a8,n8,k8,b8,o8,a9,n9,k9,b9,o9,rfl,rfl,P,Q,x7,x8,x9,hm7,hm8,hm9,hp7,hq7,hbc⟩:=hcut
 obtain ⟨wd,rfl⟩:∃ wd,wd=wc:=⟨_,rfl⟩
 have hz6:w.heap.size+1<w7.heap.size:=B6.lt
 have hkwd:Below w7.heap.size w7 wd:=(Below.x1 hbc)
 replace B6:=B6.keep hkwd
 replace B6c:=B6.cell
 replace B6f:=B6.thawed
 replace B6z:=B6.lt
 replace B6k:=lt_add B6z
 have P:=P
 have Pc:=P.cell
 have Pf:=P.thawed
 have Pz:=P.lt
 have Pk:=lt_add Pz
 have Q:=Q
 have Qc:=Q.cell
 have Qf:=Q.thawed
 have Qz:=Q.lt
 have Qk:=lt_add Qz
 have hbwd:Below w.heap.size w wd:=(Below.y1 hbc hbw7)
 have hz7:=hbw7.size
 have hzc:=hbc.size
 clear CL1 CM1 z4 z5 zm zg B5 B5c B5f B5z B5k
 have hl7:=x7.lt
 have hg8:((k:Int) == 0)=true:=by simp [HKZ.out]
 go_wp2_with fail
 go_region_held3 (fun w'=>w'.cell? ⟨p,0,none⟩=some (.int .i64 (L.back M g).rows)∧w'.cell? ⟨p,1,none⟩=some (.int .i64 (L.back M g).cols)∧w'.cell? ⟨p,2,none⟩=some (.slice a7 n7 k7)∧w'.cell? ⟨q,0,none⟩=some (.int .i64 (L.grad M g).W.rows)∧w'.cell? ⟨q,1,none⟩=some (.int .i64 (L.grad M g).W.cols)∧w'.cell? ⟨q,2,none⟩=some (.slice a8 n8 k8)∧w'.cell? ⟨q,3,none⟩=some (.int .i64 (L.grad M g).B.rows)∧w'.cell? ⟨q,4,none⟩=some (.int .i64 (L.grad M g).B.cols)∧w'.cell? ⟨q,5,none⟩=some (.slice a9 n9 k9)) (exact cells3_6 (t:=41) (u:=86) P.k Q.k) (fail)
 all_goals (
  go_wp2
  refine bodyPost_ret (v:=.tuple #[.agg #[.int .i64 (L.back M g).rows,.int .i64 (L.back M g).cols,.slice a7 n7 k7],.slice (some ⟨wd.heap.size,0,none⟩) 1 1,.int .i64 0]) (run_of_box (b:=w.heap.size+1) (cs:=[.int .i64 (L.back M g).rows,.int .i64 (L.back M g).cols,.slice a7 n7 k7]) (t:=41) (by repeat (first|(with_reducible first|exact B6|refine Box.alloc ?_ _|refine Box.drewN ?_ _|refine Box.drew ?_|refine Box.set6z ?_ _ _ _ _ _ _|refine Box.set3z ?_ _ _ _|refine Box.fx ?_ _)|exact B6)) (fun Z6=>by simp [results,Tryz.results46,go_sem,Z6.cell])) rfl ⟨_,_,rfl,(Below.y0 hbwd),⟨a7,n7,k7,b7,o7,rfl,fun h=>⟨by have:=hm7 h;omega,fun e=>by have h2:=hl7 h;simp [Value.ownBlock] at e;omega⟩,(by repeat (first|(with_reducible first|exact x7|refine IntsAt.alloc ?_ _|refine IntsAt.drewN ?_ _|refine IntsAt.drew ?_|(refine IntsAt.set ?_ ?_ _;rotate_left 1;(intro h0;have hq0:=hm7 h0;first|(dsimp only;omega)|omega|(simp;omega)|simp)))|exact x7))⟩,own_one (b:=wd.heap.size) (E:=86) Box.x0 (reads_grd (d:=L.grad M g) (fun h=>⟨by have:=(hm8 h).1;unfold newB;omega,by have:=(hm8 h).2;omega⟩) (show IntsAt _ a8 n8 k8 b8 o8 (L.grad M g).W.cells from (by repeat (first|(with_reducible first|exact x8|refine IntsAt.alloc ?_ _|refine IntsAt.drewN ?_ _|refine IntsAt.drew ?_|(refine IntsAt.set ?_ ?_ _;rotate_left 1;(intro h0;have hq0:=hm8 h0;first|(dsimp only;omega)|omega|(simp;omega)|simp)))|exact x8))) (fun h=>⟨by have:=(hm9 h).1;unfold newB;omega,by have:=(hm9 h).2;omega⟩) (show IntsAt _ a9 n9 k9 b9 o9 (L.grad M g).B.cells from (by repeat (first|(with_reducible first|exact x9|refine IntsAt.alloc ?_ _|refine IntsAt.drewN ?_ _|refine IntsAt.drew ?_|(refine IntsAt.set ?_ ?_ _;rotate_left 1;(intro h0;have hq0:=hm9 h0;first|(dsimp only;omega)|omega|(simp;omega)|simp)))|exact x9)))) (by omega)⟩)
end
end Go.Proofs.YtchngeagnlngaaaGreatDoor
end
