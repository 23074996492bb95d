/- Texts joined: Lay9, Lay10. -/
import Derived.Test.YtchngeagnlngaaaGreatDoorJ26
import Derived.Test.YtchngeagnlngaaaGreatDoorJ01
import Derived.Deep.DeepCutAuto
set_option linter.unusedVariables false
set_option linter.unusedSimpArgs false
section
namespace Go.Proofs.YtchngeagnlngaaaGreatDoor
open Go.RowKit Gal
set_option maxRecDepth 100000
set_option maxHeartbeats 2000000
theorem turn_fault' {m:Mat} (h:m.fault=0) (hr:m.rows≤12):(matTurn m).fault=0:=by
 obtain ⟨R,K,xs,rfl,hR,hK,hl,he⟩:=fault_form' h
 exact turn_fault (by dsimp only at hr;omega) hK hl he
theorem back_1 (W B x g:Mat) (a0 ag aw ab:Option Addr) (n0 k0 b0 o0 ng kg bg og nw kw bw ow nb kb:Nat) (w:World) (x0:IntsAt w a0 n0 k0 b0 o0 x.cells) (xg:IntsAt w ag ng kg bg og g.cells) (xw:IntsAt w aw nw kw bw ow W.cells) (hg:Backs ⟨1,W,B⟩ x g) :
  Calls Tryz.prog 143 #[.agg #[],.agg #[.int .i64 1,.int .i64 W.rows,.int .i64 W.cols,.slice aw nw kw,.int .i64 B.rows,.int .i64 B.cols,.slice ab nb kb],.agg #[.int .i64 x.rows,.int .i64 x.cols,.slice a0 n0 k0],.agg #[.int .i64 g.rows,.int .i64 g.cols,.slice ag ng kg]] w fun e w'=>
   ∃ v d,e=.returned (.tuple #[v,d])∧MatNew w.heap.size w' v (Lay.back ⟨1,W,B⟩ x g)∧GrdNew w.heap.size w' d (Lay.grad ⟨1,W,B⟩ x g)∧Below w.heap.size w w':=by
 have hbk:Lay.back ⟨1,W,B⟩ x g=matMul g (matTurn W):=by simp [Lay.back]
 have hgr:Lay.grad ⟨1,W,B⟩ x g=⟨matMul (matTurn x) g,matSums g⟩:=by simp [Lay.grad]
 obtain ⟨_,_,fw,fb,ft⟩:=Lay.fault_ok hg.goes.lay
 have hW12:W.rows≤12:=by unfold Lay.fits at ft;dsimp only at ft;omega
 have hx12:x.rows≤12:=hg.small rfl
 have hc:g.cols=W.cols:=by rw [hg.cols];exact if_pos rfl
 have HTW:=Lib.hid (turnFault_zero fw hW12)
 have HTX:=Lib.hid (turnFault_zero hg.goes.mat hx12)
 have HM1:Hid (mulFault g (matTurn W)=0):=Lib.hid (mulFault_zero hg.mat (turn_fault' fw hW12) hc)
 have HM2:Hid (mulFault (matTurn x) g=0):=Lib.hid (mulFault_zero (turn_fault' hg.goes.mat hx12) hg.mat hg.rows.symm)
 have HF:=Lib.hid hg.mat
 rw [hbk,hgr]
 clear hbk hgr fw fb ft hW12 hx12 hc hg
 go_enter Tryz.func143,Tryz.ntmps143
 go_wp2_with fail
 refine (matTurn_new W _ _ (MatAt.mk (xw.alloc _ |>.alloc _ |>.alloc _ |>.alloc _ |>.alloc _ |>.alloc _)) HTW.out).mono ?_
 rintro e w1 ⟨v1,rfl,⟨a1,n1,k1,b1,o1,rfl,hn1,x1⟩,hb1⟩
 have B2:=((show Box _ (w.heap.size+1+1) [.int .i64 x.rows,.int .i64 x.cols,.slice a0 n0 k0] 41 from Box.x0)).keep hb1
 have B2c:=B2.cell
 have B2f:=B2.thawed
 have B2z:=B2.lt
 have B2k:=lt_add B2z
 have B3:=((show Box _ (w.heap.size+1+1+1) [.int .i64 g.rows,.int .i64 g.cols,.slice ag ng kg] 41 from Box.x0)).keep hb1
 have B3c:=B3.cell
 have B3f:=B3.thawed
 have B3z:=B3.lt
 have B3k:=lt_add B3z
 have B4:=((show Box _ (w.heap.size+1+1+1+1) [.int .i64 0,.int .i64 0,.slice none 0 0] 41 from Box.x0)).keep hb1
 have B4c:=B4.cell
 have B4f:=B4.thawed
 have B4z:=B4.lt
 have B4k:=lt_add B4z
 have B5:=((show Box _ (w.heap.size+1+1+1+1+1) [.int .i64 0,.int .i64 0,.slice none 0 0,.int .i64 0,.int .i64 0,.slice none 0 0] 86 from Box.x0)).keep hb1
 have B5c:=B5.cell
 have B5f:=B5.thawed
 have B5z:=B5.lt
 have B5k:=lt_add B5z
 have hkw1:Below w.heap.size w w1:=(Below.x1 hb1)
 replace x0:=x0.keep hkw1
 replace xg:=xg.keep hkw1
 have hsw1:=hkw1.size
 have hz1:w.heap.size+1+1+1+1+1<w1.heap.size:=B5z
 go_wp2_with fail
 refine (matTurn_new x _ _ (MatAt.mk (x0.alloc _)) HTX.out).mono ?_
 rintro e w2 ⟨v2,rfl,⟨a2,n2,k2,b2,o2,rfl,hn2,x2⟩,hb2⟩
 have Q1:=(Box.new w1 [.int .i64 (matTurn W).rows,.int .i64 (matTurn W).cols,.slice a1 n1 k1] 41).keep hb2
 have Q1c:=Q1.cell
 have Q1f:=Q1.thawed
 have Q1z:=Q1.lt
 have Q1k:=lt_add Q1z
 have hkw2:Below w1.heap.size w1 w2:=(Below.x1 hb2)
 replace B3:=B3.keep hkw2
 replace B3c:=B3.cell
 replace B3f:=B3.thawed
 replace B3z:=B3.lt
 replace B3k:=lt_add B3z
 replace B4:=B4.keep hkw2
 replace B4c:=B4.cell
 replace B4f:=B4.thawed
 replace B4z:=B4.lt
 replace B4k:=lt_add B4z
 replace B5:=B5.keep hkw2
 replace B5c:=B5.cell
 replace B5f:=B5.thawed
 replace B5z:=B5.lt
 replace B5k:=lt_add B5z
 replace xg:=xg.keep hkw2
 replace x1:=x1.keep hkw2
 have hsw2:=hkw2.size
 go_wp2_with fail
 refine (matMul_new g (matTurn W) _ _ _ (MatAt.mk (xg.alloc _)) (MatAt.mk (x1.alloc _)) HM1.out).mono ?_
 rintro e w3 ⟨v3,rfl,⟨a3,n3,k3,b3,o3,rfl,hn3,x3⟩,hb3⟩
 have Q2:=(Box.new w2 [.int .i64 (matTurn x).rows,.int .i64 (matTurn x).cols,.slice a2 n2 k2] 41).keep hb3
 have Q2c:=Q2.cell
 have Q2f:=Q2.thawed
 have Q2z:=Q2.lt
 have Q2k:=lt_add Q2z
 have hkw3:Below w2.heap.size w2 w3:=(Below.x1 hb3)
 replace B3:=B3.keep hkw3
 replace B3c:=B3.cell
 replace B3f:=B3.thawed
 replace B3z:=B3.lt
 replace B3k:=lt_add B3z
 replace B4:=B4.keep hkw3
 replace B4c:=B4.cell
 replace B4f:=B4.thawed
 replace B4z:=B4.lt
 replace B4k:=lt_add B4z
 replace B5:=B5.keep hkw3
 replace B5c:=B5.cell
 replace B5f:=B5.thawed
 replace B5z:=B5.lt
 replace B5k:=lt_add B5z
 replace xg:=xg.keep hkw3
 replace x2:=x2.keep hkw3
 have hsw3:=hkw3.size
 go_wp2_with fail
 refine (matMul_new (matTurn x) g _ _ _ (MatAt.mk (x2.alloc _)) (MatAt.mk (xg.alloc _)) HM2.out).mono ?_
 rintro e w4 ⟨v4,rfl,⟨a4,n4,k4,b4,o4,rfl,hn4,x4⟩,hb4⟩
 have Q3:=(Box.new w3 [.int .i64 (matMul g (matTurn W)).rows,.int .i64 (matMul g (matTurn W)).cols,.slice a3 n3 k3] 41).keep hb4
 have Q3c:=Q3.cell
 have Q3f:=Q3.thawed
 have Q3z:=Q3.lt
 have Q3k:=lt_add Q3z
 have hkw4:Below w3.heap.size w3 w4:=(Below.x1 hb4)
 replace B3:=B3.keep hkw4
 replace B3c:=B3.cell
 replace B3f:=B3.thawed
 replace B3z:=B3.lt
 replace B3k:=lt_add B3z
 replace B4:=B4.keep hkw4
 replace B4c:=B4.cell
 replace B4f:=B4.thawed
 replace B4z:=B4.lt
 replace B4k:=lt_add B4z
 replace B5:=B5.keep hkw4
 replace B5c:=B5.cell
 replace B5f:=B5.thawed
 replace B5z:=B5.lt
 replace B5k:=lt_add B5z
 replace xg:=xg.keep hkw4
 replace x3:=x3.keep hkw4
 have hsw4:=hkw4.size
 go_wp2_with fail
 refine (matSums_any g _ _ (MatAt.mk (xg.alloc _))).mono ?_
 rw [orNone_ok HF.out,errV_nil HF.out]
 rintro e w5 ⟨v5,rfl,⟨a5,n5,k5,b5,o5,rfl,hn5,x5⟩,hb5⟩
 have Q4:=(Box.new w4 [.int .i64 (matMul (matTurn x) g).rows,.int .i64 (matMul (matTurn x) g).cols,.slice a4 n4 k4] 41).keep hb5
 have Q4c:=Q4.cell
 have Q4f:=Q4.thawed
 have Q4z:=Q4.lt
 have Q4k:=lt_add Q4z
 have hkw5:Below w4.heap.size w4 w5:=(Below.x1 hb5)
 replace B4:=B4.keep hkw5
 replace B4c:=B4.cell
 replace B4f:=B4.thawed
 replace B4z:=B4.lt
 replace B4k:=lt_add B4z
 replace B5:=B5.keep hkw5
 replace B5c:=B5.cell
 replace B5f:=B5.thawed
 replace B5z:=B5.lt
 replace B5k:=lt_add B5z
 replace Q3:=Q3.keep hkw5
 replace Q3c:=Q3.cell
 replace Q3f:=Q3.thawed
 replace Q3z:=Q3.lt
 replace Q3k:=lt_add Q3z
 replace x3:=x3.keep hkw5
 replace x4:=x4.keep hkw5
 have hsw5:=hkw5.size
 go_wp2_with fail
 have Q5:Box (w5.alloc (.cells #[.int .i64 (matSums g).rows,.int .i64 (matSums g).cols,.slice a5 n5 k5] 41)) w5.heap.size [.int .i64 (matSums g).rows,.int .i64 (matSums g).cols,.slice a5 n5 k5] 41:=Box.new _ _ _
 have hn3':0<n3→w.heap.size+1+1+1+1+1<b3:=fun h=>by have:=hn3 h;simp at this;omega
 have hn4':0<n4→w.heap.size+1+1+1+1+1<b4:=fun h=>by have:=hn4 h;simp at this;omega
 have hn5':0<n5→w.heap.size+1+1+1+1+1<b5:=fun h=>by have:=hn5 h;simp at this;omega
 go_region_held3 (fun w'=>w'.cell? ⟨w3.heap.size,0,none⟩=some (.int .i64 (matMul g (matTurn W)).rows)∧w'.cell? ⟨w3.heap.size,1,none⟩=some (.int .i64 (matMul g (matTurn W)).cols)∧w'.cell? ⟨w3.heap.size,2,none⟩=some (.slice a3 n3 k3)∧w'.cell? ⟨w4.heap.size,0,none⟩=some (.int .i64 (matMul (matTurn x) g).rows)∧w'.cell? ⟨w4.heap.size,1,none⟩=some (.int .i64 (matMul (matTurn x) g).cols)∧w'.cell? ⟨w4.heap.size,2,none⟩=some (.slice a4 n4 k4)∧w'.cell? ⟨w5.heap.size,0,none⟩=some (.int .i64 (matSums g).rows)∧w'.cell? ⟨w5.heap.size,1,none⟩=some (.int .i64 (matSums g).cols)∧w'.cell? ⟨w5.heap.size,2,none⟩=some (.slice a5 n5 k5)) (exact cells333 (t:=41) (u:=41) (s:=41) Q3.k Q4.k (by repeat (first|(with_reducible first|exact Q5|exact (Box.new' _ (w5.heap.size) _ _ (by simp [World.setCell]))|refine Box.alloc ?_ _|refine Box.drewN ?_ _|refine Box.drew ?_|refine Box.fx ?_ _)|exact Q5))) (fail)
 all_goals (
  go_wp2
  refine bodyPost_ret (v:=.tuple #[.agg #[.int .i64 (matMul g (matTurn W)).rows,.int .i64 (matMul g (matTurn W)).cols,.slice a3 n3 k3],.agg #[.int .i64 (matMul (matTurn x) g).rows,.int .i64 (matMul (matTurn x) g).cols,.slice a4 n4 k4,.int .i64 (matSums g).rows,.int .i64 (matSums g).cols,.slice a5 n5 k5]]) ?_ rfl ⟨_,_,rfl,?_,?_,?_⟩
  ·simp [results,Tryz.results143,go_sem,B4c,B5c,B4z,B5z]
  ·exact MatNew.mk (b:=b3) (off:=o3) (fun h=>by have:=hn3' h;omega) (by repeat (first|(with_reducible first|exact x3|refine IntsAt.alloc ?_ _|refine IntsAt.drewN ?_ _|refine IntsAt.drew ?_|(refine IntsAt.set ?_ ?_ _;rotate_left 1;(intro h0;have hq0:=hn3' h0;first|(dsimp only;omega)|omega|(simp;omega)|simp)))|exact x3))
  ·exact ⟨a4,n4,k4,b4,o4,a5,n5,k5,b5,o5,rfl,fun h=>by have:=hn4' h;omega,(by repeat (first|(with_reducible first|exact x4|refine IntsAt.alloc ?_ _|refine IntsAt.drewN ?_ _|refine IntsAt.drew ?_|(refine IntsAt.set ?_ ?_ _;rotate_left 1;(intro h0;have hq0:=hn4' h0;first|(dsimp only;omega)|omega|(simp;omega)|simp)))|exact x4)),fun h=>by have:=hn5' h;omega,(by repeat (first|(with_reducible first|exact x5|refine IntsAt.alloc ?_ _|refine IntsAt.drewN ?_ _|refine IntsAt.drew ?_|(refine IntsAt.set ?_ ?_ _;rotate_left 1;(intro h0;have hq0:=hn5' h0;first|(dsimp only;omega)|omega|(simp;omega)|simp)))|exact x5))⟩
  ·exact (by repeat (first|(with_reducible first|exact Below.refl _ _|refine Below.al ?_ _|refine Below.drN ?_ _|refine Below.drew ?_|refine Below.sx ?_ _|refine Below.go ?_ hb5|refine Below.go ?_ hb4|refine Below.go ?_ hb3|refine Below.go ?_ hb2|refine Below.go ?_ hb1)|exact Below.refl _ _)))
end Go.Proofs.YtchngeagnlngaaaGreatDoor
end
section
namespace Go.Proofs.YtchngeagnlngaaaGreatDoor
open Go.RowKit Gal
set_option maxRecDepth 100000
set_option maxHeartbeats 4000000
theorem m_back_1 (w:World):(Go.method 353 196 (.agg #[]) "galley/layer.back").run Tryz.prog w=.ok (143,.agg #[]) w:=by kernel_rfl
theorem n_back_1 (w:World):(Go.nilAhead 353 196 (.agg #[]) "galley/layer.back").run Tryz.prog w=.ok (some false) w:=by kernel_rfl
theorem m_back_2 (w:World):(Go.method 353 199 (.agg #[]) "galley/layer.back").run Tryz.prog w=.ok (157,.agg #[]) w:=by kernel_rfl
theorem n_back_2 (w:World):(Go.nilAhead 353 199 (.agg #[]) "galley/layer.back").run Tryz.prog w=.ok (some false) w:=by kernel_rfl
theorem m_back_3 (w:World):(Go.method 353 200 (.agg #[]) "galley/layer.back").run Tryz.prog w=.ok (163,.agg #[]) w:=by kernel_rfl
theorem n_back_3 (w:World):(Go.nilAhead 353 200 (.agg #[]) "galley/layer.back").run Tryz.prog w=.ok (some false) w:=by kernel_rfl
theorem m_back_4 (w:World):(Go.method 353 201 (.agg #[]) "galley/layer.back").run Tryz.prog w=.ok (167,.agg #[]) w:=by kernel_rfl
theorem n_back_4 (w:World):(Go.nilAhead 353 201 (.agg #[]) "galley/layer.back").run Tryz.prog w=.ok (some false) w:=by kernel_rfl
def orGrd (f:Int) (d:Grd):Grd:=if f=0 then d else Grd.none
theorem orGrd_ok {f:Int} {d:Grd} (h:f=0):orGrd f d=d:=if_pos h
theorem orGrd_bad {f:Int} {d:Grd} (h:f≠0):orGrd f d=Grd.none:=if_neg h
def BackPost (w:World) (l:Lay) (x g:Mat) (e:Ending) (w':World):Prop:=
 ∃ y d,e=.returned (.tuple #[y,d,errV (l.backFault x g)])∧MatNew w.heap.size w' y (orNone (l.backFault x g) (l.back x g))∧GrdNew w.heap.size w' d (orGrd (l.backFault x g) (l.grad x g))∧Below w.heap.size w w'
theorem backPost_bad {w w':World} {l:Lay} {x g:Mat} {f:Int} (hf:l.backFault x g=f) (h0:f≠0) (hb:Below w.heap.size w w') :
  BackPost w l x g (.returned (.tuple #[.agg #[.int .i64 0,.int .i64 0,.slice none 0 0],.agg #[.int .i64 0,.int .i64 0,.slice none 0 0,.int .i64 0,.int .i64 0,.slice none 0 0],.iface 36 (.int .i64 f)])) w':=by
 subst hf
 exact ⟨_,_,by rw [errV_err h0],by rw [orNone_bad h0];exact none_new _ _,by rw [orGrd_bad h0];exact noGrd _ _,hb⟩
section
variable (l:Lay) (x g:Mat) (a a' a2 a3:Option Addr) (n n' n2 n3 k k' k2 k3 b b' b2 b3 o o' o2 o3:Nat) (w:World) (x0:IntsAt w a n k b o l.W.cells) (x1:IntsAt w a' n' k' b' o' l.B.cells) (x2:IntsAt w a2 n2 k2 b2 o2 x.cells) (x3:IntsAt w a3 n3 k3 b3 o3 g.cells)
include x0 x1 x2 x3
theorem layBack_bad1 (hf:l.goFault x≠0) :
  Calls Tryz.prog 90 #[.agg #[.int .i64 l.kind,.int .i64 l.W.rows,.int .i64 l.W.cols,.slice a n k,.int .i64 l.B.rows,.int .i64 l.B.cols,.slice a' n' k'],.agg #[.int .i64 x.rows,.int .i64 x.cols,.slice a2 n2 k2],.agg #[.int .i64 g.rows,.int .i64 g.cols,.slice a3 n3 k3]] w (BackPost w l x g)
 := by
 have HB:Hid (l.backFault x g=l.goFault x):=Lib.hid (by unfold Lay.backFault;rw [if_pos hf])
 have HN:=Lib.hid hf
 have HE:=Lib.hid (show errV (l.goFault x)=.iface 36 (.int .i64 (l.goFault x)) from errV_err hf)
 clear hf
 go_enter Tryz.func90,Tryz.ntmps90
 go_wp2_with fail
 refine (layEnter_any l x _ _ _ ⟨_,_,_,_,_,_,_,_,_,_,rfl,x0.alloc _ |>.alloc _ |>.alloc _ |>.alloc _ |>.alloc _,x1.alloc _ |>.alloc _ |>.alloc _ |>.alloc _ |>.alloc _⟩ (MatAt.mk (x2.alloc _ |>.alloc _ |>.alloc _ |>.alloc _ |>.alloc _))).mono ?_
 rw [HE.out]
 rintro e w1 ⟨rfl,hb1⟩
 have B0:=((show Box _ w.heap.size [.int .i64 l.kind,.int .i64 l.W.rows,.int .i64 l.W.cols,.slice a n k,.int .i64 l.B.rows,.int .i64 l.B.cols,.slice a' n' k'] 84 from Box.x0)).keep hb1
 have B0c:=B0.cell
 have B0f:=B0.thawed
 have B0z:=B0.lt
 have B0k:=lt_add B0z
 have B1:=((show Box _ (w.heap.size+1) [.int .i64 x.rows,.int .i64 x.cols,.slice a2 n2 k2] 41 from Box.x0)).keep hb1
 have B1c:=B1.cell
 have B1f:=B1.thawed
 have B1z:=B1.lt
 have B1k:=lt_add B1z
 have B2:=((show Box _ (w.heap.size+1+1) [.int .i64 g.rows,.int .i64 g.cols,.slice a3 n3 k3] 41 from Box.x0)).keep hb1
 have B2c:=B2.cell
 have B2f:=B2.thawed
 have B2z:=B2.lt
 have B2k:=lt_add B2z
 have B3:=((show Box _ (w.heap.size+1+1+1) [.int .i64 0,.int .i64 0,.slice none 0 0] 41 from Box.x0)).keep hb1
 have B3c:=B3.cell
 have B3f:=B3.thawed
 have B3z:=B3.lt
 have B3k:=lt_add B3z
 have B4:=((show Box _ (w.heap.size+1+1+1+1) [.int .i64 0,.int .i64 0,.slice none 0 0,.int .i64 0,.int .i64 0,.slice none 0 0] 86 from Box.x0)).keep hb1
 have B4c:=B4.cell
 have B4f:=B4.thawed
 have B4z:=B4.lt
 have B4k:=lt_add B4z
 have hkw1:Below w.heap.size w w1:=(Below.x1 hb1)
 replace x0:=x0.keep hkw1
 replace x1:=x1.keep hkw1
 replace x2:=x2.keep hkw1
 replace x3:=x3.keep hkw1
 have hsw1:=hkw1.size
 go_wp2
 exact bodyPost_ret (v:=.tuple #[.agg #[.int .i64 0,.int .i64 0,.slice none 0 0],.agg #[.int .i64 0,.int .i64 0,.slice none 0 0,.int .i64 0,.int .i64 0,.slice none 0 0],.iface 36 (.int .i64 (l.goFault x))]) (by simp [results,Tryz.results90,go_sem,B3c,B4c]) rfl (backPost_bad HB.out HN.out (Below.x1 hb1))
theorem layBack_bad2 (h1:l.goFault x=0) (hf:g.fault≠0) :
  Calls Tryz.prog 90 #[.agg #[.int .i64 l.kind,.int .i64 l.W.rows,.int .i64 l.W.cols,.slice a n k,.int .i64 l.B.rows,.int .i64 l.B.cols,.slice a' n' k'],.agg #[.int .i64 x.rows,.int .i64 x.cols,.slice a2 n2 k2],.agg #[.int .i64 g.rows,.int .i64 g.cols,.slice a3 n3 k3]] w (BackPost w l x g)
 := by
 have HB:Hid (l.backFault x g=g.fault):=Lib.hid (by unfold Lay.backFault;rw [if_neg (by simp [h1]),if_pos hf])
 have HN:=Lib.hid hf
 have HE:=Lib.hid (show errV (l.goFault x)=.nilIface from errV_nil h1)
 have HE2:=Lib.hid (show errV (matFault g.rows g.cols g.cells)=.iface 36 (.int .i64 g.fault) from errV_err hf)
 clear hf h1
 go_enter Tryz.func90,Tryz.ntmps90
 go_wp2_with fail
 refine (layEnter_any l x _ _ _ ⟨_,_,_,_,_,_,_,_,_,_,rfl,x0.alloc _ |>.alloc _ |>.alloc _ |>.alloc _ |>.alloc _,x1.alloc _ |>.alloc _ |>.alloc _ |>.alloc _ |>.alloc _⟩ (MatAt.mk (x2.alloc _ |>.alloc _ |>.alloc _ |>.alloc _ |>.alloc _))).mono ?_
 rw [HE.out]
 rintro e w1 ⟨rfl,hb1⟩
 have B0:=((show Box _ w.heap.size [.int .i64 l.kind,.int .i64 l.W.rows,.int .i64 l.W.cols,.slice a n k,.int .i64 l.B.rows,.int .i64 l.B.cols,.slice a' n' k'] 84 from Box.x0)).keep hb1
 have B0c:=B0.cell
 have B0f:=B0.thawed
 have B0z:=B0.lt
 have B0k:=lt_add B0z
 have B1:=((show Box _ (w.heap.size+1) [.int .i64 x.rows,.int .i64 x.cols,.slice a2 n2 k2] 41 from Box.x0)).keep hb1
 have B1c:=B1.cell
 have B1f:=B1.thawed
 have B1z:=B1.lt
 have B1k:=lt_add B1z
 have B2:=((show Box _ (w.heap.size+1+1) [.int .i64 g.rows,.int .i64 g.cols,.slice a3 n3 k3] 41 from Box.x0)).keep hb1
 have B2c:=B2.cell
 have B2f:=B2.thawed
 have B2z:=B2.lt
 have B2k:=lt_add B2z
 have B3:=((show Box _ (w.heap.size+1+1+1) [.int .i64 0,.int .i64 0,.slice none 0 0] 41 from Box.x0)).keep hb1
 have B3c:=B3.cell
 have B3f:=B3.thawed
 have B3z:=B3.lt
 have B3k:=lt_add B3z
 have B4:=((show Box _ (w.heap.size+1+1+1+1) [.int .i64 0,.int .i64 0,.slice none 0 0,.int .i64 0,.int .i64 0,.slice none 0 0] 86 from Box.x0)).keep hb1
 have B4c:=B4.cell
 have B4f:=B4.thawed
 have B4z:=B4.lt
 have B4k:=lt_add B4z
 have hkw1:Below w.heap.size w w1:=(Below.x1 hb1)
 replace x0:=x0.keep hkw1
 replace x1:=x1.keep hkw1
 replace x2:=x2.keep hkw1
 replace x3:=x3.keep hkw1
 have hsw1:=hkw1.size
 go_wp2_with fail
 refine (matCheck_any _ _ _ _ _ _ _ g.cells _ x3).mono ?_
 rw [HE2.out]
 rintro e w2 ⟨rfl,hb2⟩
 have hkw2:Below w1.heap.size w1 w2:=(Below.x1 hb2)
 replace B3:=B3.keep hkw2
 replace B3c:=B3.cell
 replace B3f:=B3.thawed
 replace B3z:=B3.lt
 replace B3k:=lt_add B3z
 replace B4:=B4.keep hkw2
 replace B4c:=B4.cell
 replace B4f:=B4.thawed
 replace B4z:=B4.lt
 replace B4k:=lt_add B4z
 have hsw2:=hkw2.size
 go_wp2
 exact bodyPost_ret (v:=.tuple #[.agg #[.int .i64 0,.int .i64 0,.slice none 0 0],.agg #[.int .i64 0,.int .i64 0,.slice none 0 0,.int .i64 0,.int .i64 0,.slice none 0 0],.iface 36 (.int .i64 (g.fault))]) (by simp [results,Tryz.results90,go_sem,B3c,B4c]) rfl (backPost_bad HB.out HN.out (Below.x2 hb2 hb1))
theorem layBack_bad3 (h1:l.goFault x=0) (h2:g.fault=0) (h3:g.rows≠x.rows) :
  Calls Tryz.prog 90 #[.agg #[.int .i64 l.kind,.int .i64 l.W.rows,.int .i64 l.W.cols,.slice a n k,.int .i64 l.B.rows,.int .i64 l.B.cols,.slice a' n' k'],.agg #[.int .i64 x.rows,.int .i64 x.cols,.slice a2 n2 k2],.agg #[.int .i64 g.rows,.int .i64 g.cols,.slice a3 n3 k3]] w (BackPost w l x g)
 := by
 have q1:(g.rows != x.rows)=true:=by simp [h3]
 have HB:Hid (l.backFault x g=2):=Lib.hid (by unfold Lay.backFault;rw [if_neg (by simp [h1]),if_neg (by simp [h2]),if_pos (Or.inl h3)])
 have HN:Hid ((2:Int)≠0):=Lib.hid (by decide)
 have HE:=Lib.hid (show errV (l.goFault x)=.nilIface from errV_nil h1)
 have HE2:=Lib.hid (show errV (matFault g.rows g.cols g.cells)=.nilIface from errV_nil h2)
 have HK:=Lib.hid (okOr_ok (x:=l.wide x.cols) h1)
 clear h1 h2 h3
 go_enter Tryz.func90,Tryz.ntmps90
 go_wp2_with fail
 refine (layEnter_any l x _ _ _ ⟨_,_,_,_,_,_,_,_,_,_,rfl,x0.alloc _ |>.alloc _ |>.alloc _ |>.alloc _ |>.alloc _,x1.alloc _ |>.alloc _ |>.alloc _ |>.alloc _ |>.alloc _⟩ (MatAt.mk (x2.alloc _ |>.alloc _ |>.alloc _ |>.alloc _ |>.alloc _))).mono ?_
 rw [HE.out,HK.out]
 rintro e w1 ⟨rfl,hb1⟩
 have B0:=((show Box _ w.heap.size [.int .i64 l.kind,.int .i64 l.W.rows,.int .i64 l.W.cols,.slice a n k,.int .i64 l.B.rows,.int .i64 l.B.cols,.slice a' n' k'] 84 from Box.x0)).keep hb1
 have B0c:=B0.cell
 have B0f:=B0.thawed
 have B0z:=B0.lt
 have B0k:=lt_add B0z
 have B1:=((show Box _ (w.heap.size+1) [.int .i64 x.rows,.int .i64 x.cols,.slice a2 n2 k2] 41 from Box.x0)).keep hb1
 have B1c:=B1.cell
 have B1f:=B1.thawed
 have B1z:=B1.lt
 have B1k:=lt_add B1z
 have B2:=((show Box _ (w.heap.size+1+1) [.int .i64 g.rows,.int .i64 g.cols,.slice a3 n3 k3] 41 from Box.x0)).keep hb1
 have B2c:=B2.cell
 have B2f:=B2.thawed
 have B2z:=B2.lt
 have B2k:=lt_add B2z
 have B3:=((show Box _ (w.heap.size+1+1+1) [.int .i64 0,.int .i64 0,.slice none 0 0] 41 from Box.x0)).keep hb1
 have B3c:=B3.cell
 have B3f:=B3.thawed
 have B3z:=B3.lt
 have B3k:=lt_add B3z
 have B4:=((show Box _ (w.heap.size+1+1+1+1) [.int .i64 0,.int .i64 0,.slice none 0 0,.int .i64 0,.int .i64 0,.slice none 0 0] 86 from Box.x0)).keep hb1
 have B4c:=B4.cell
 have B4f:=B4.thawed
 have B4z:=B4.lt
 have B4k:=lt_add B4z
 have hkw1:Below w.heap.size w w1:=(Below.x1 hb1)
 replace x0:=x0.keep hkw1
 replace x1:=x1.keep hkw1
 replace x2:=x2.keep hkw1
 replace x3:=x3.keep hkw1
 have hsw1:=hkw1.size
 go_wp2_with fail
 refine (matCheck_any _ _ _ _ _ _ _ g.cells _ x3).mono ?_
 rw [HE2.out]
 rintro e w2 ⟨rfl,hb2⟩
 have hkw2:Below w1.heap.size w1 w2:=(Below.x1 hb2)
 replace B0:=B0.keep hkw2
 replace B0c:=B0.cell
 replace B0f:=B0.thawed
 replace B0z:=B0.lt
 replace B0k:=lt_add B0z
 replace B1:=B1.keep hkw2
 replace B1c:=B1.cell
 replace B1f:=B1.thawed
 replace B1z:=B1.lt
 replace B1k:=lt_add B1z
 replace B2:=B2.keep hkw2
 replace B2c:=B2.cell
 replace B2f:=B2.thawed
 replace B2z:=B2.lt
 replace B2k:=lt_add B2z
 replace B3:=B3.keep hkw2
 replace B3c:=B3.cell
 replace B3f:=B3.thawed
 replace B3z:=B3.lt
 replace B3k:=lt_add B3z
 replace B4:=B4.keep hkw2
 replace B4c:=B4.cell
 replace B4f:=B4.thawed
 replace B4z:=B4.lt
 replace B4k:=lt_add B4z
 have hsw2:=hkw2.size
 go_wp2
 exact bodyPost_ret (v:=.tuple #[.agg #[.int .i64 0,.int .i64 0,.slice none 0 0],.agg #[.int .i64 0,.int .i64 0,.slice none 0 0,.int .i64 0,.int .i64 0,.slice none 0 0],.iface 36 (.int .i64 (2))]) (by simp [results,Tryz.results90,go_sem,B3c,B4c]) rfl (backPost_bad HB.out HN.out (Below.x2 hb2 hb1))
theorem layBack_bad4 (h1:l.goFault x=0) (h2:g.fault=0) (h3:g.rows=x.rows) (h4:g.cols≠l.wide x.cols) :
  Calls Tryz.prog 90 #[.agg #[.int .i64 l.kind,.int .i64 l.W.rows,.int .i64 l.W.cols,.slice a n k,.int .i64 l.B.rows,.int .i64 l.B.cols,.slice a' n' k'],.agg #[.int .i64 x.rows,.int .i64 x.cols,.slice a2 n2 k2],.agg #[.int .i64 g.rows,.int .i64 g.cols,.slice a3 n3 k3]] w (BackPost w l x g)
 := by
 have q1:(g.rows != x.rows)=false:=by simp [h3]
 have q2:(g.cols != l.wide x.cols)=true:=by simp [h4]
 have HB:Hid (l.backFault x g=2):=Lib.hid (by unfold Lay.backFault;rw [if_neg (by simp [h1]),if_neg (by simp [h2]),if_pos (Or.inr h4)])
 have HN:Hid ((2:Int)≠0):=Lib.hid (by decide)
 have HE:=Lib.hid (show errV (l.goFault x)=.nilIface from errV_nil h1)
 have HE2:=Lib.hid (show errV (matFault g.rows g.cols g.cells)=.nilIface from errV_nil h2)
 have HK:=Lib.hid (okOr_ok (x:=l.wide x.cols) h1)
 clear h1 h2 h3 h4
 go_enter Tryz.func90,Tryz.ntmps90
 go_wp2_with fail
 refine (layEnter_any l x _ _ _ ⟨_,_,_,_,_,_,_,_,_,_,rfl,x0.alloc _ |>.alloc _ |>.alloc _ |>.alloc _ |>.alloc _,x1.alloc _ |>.alloc _ |>.alloc _ |>.alloc _ |>.alloc _⟩ (MatAt.mk (x2.alloc _ |>.alloc _ |>.alloc _ |>.alloc _ |>.alloc _))).mono ?_
 rw [HE.out,HK.out]
 rintro e w1 ⟨rfl,hb1⟩
 have B0:=((show Box _ w.heap.size [.int .i64 l.kind,.int .i64 l.W.rows,.int .i64 l.W.cols,.slice a n k,.int .i64 l.B.rows,.int .i64 l.B.cols,.slice a' n' k'] 84 from Box.x0)).keep hb1
 have B0c:=B0.cell
 have B0f:=B0.thawed
 have B0z:=B0.lt
 have B0k:=lt_add B0z
 have B1:=((show Box _ (w.heap.size+1) [.int .i64 x.rows,.int .i64 x.cols,.slice a2 n2 k2] 41 from Box.x0)).keep hb1
 have B1c:=B1.cell
 have B1f:=B1.thawed
 have B1z:=B1.lt
 have B1k:=lt_add B1z
 have B2:=((show Box _ (w.heap.size+1+1) [.int .i64 g.rows,.int .i64 g.cols,.slice a3 n3 k3] 41 from Box.x0)).keep hb1
 have B2c:=B2.cell
 have B2f:=B2.thawed
 have B2z:=B2.lt
 have B2k:=lt_add B2z
 have B3:=((show Box _ (w.heap.size+1+1+1) [.int .i64 0,.int .i64 0,.slice none 0 0] 41 from Box.x0)).keep hb1
 have B3c:=B3.cell
 have B3f:=B3.thawed
 have B3z:=B3.lt
 have B3k:=lt_add B3z
 have B4:=((show Box _ (w.heap.size+1+1+1+1) [.int .i64 0,.int .i64 0,.slice none 0 0,.int .i64 0,.int .i64 0,.slice none 0 0] 86 from Box.x0)).keep hb1
 have B4c:=B4.cell
 have B4f:=B4.thawed
 have B4z:=B4.lt
 have B4k:=lt_add B4z
 have hkw1:Below w.heap.size w w1:=(Below.x1 hb1)
 replace x0:=x0.keep hkw1
 replace x1:=x1.keep hkw1
 replace x2:=x2.keep hkw1
 replace x3:=x3.keep hkw1
 have hsw1:=hkw1.size
 go_wp2_with fail
 refine (matCheck_any _ _ _ _ _ _ _ g.cells _ x3).mono ?_
 rw [HE2.out]
 rintro e w2 ⟨rfl,hb2⟩
 have hkw2:Below w1.heap.size w1 w2:=(Below.x1 hb2)
 replace B0:=B0.keep hkw2
 replace B0c:=B0.cell
 replace B0f:=B0.thawed
 replace B0z:=B0.lt
 replace B0k:=lt_add B0z
 replace B1:=B1.keep hkw2
 replace B1c:=B1.cell
 replace B1f:=B1.thawed
 replace B1z:=B1.lt
 replace B1k:=lt_add B1z
 replace B2:=B2.keep hkw2
 replace B2c:=B2.cell
 replace B2f:=B2.thawed
 replace B2z:=B2.lt
 replace B2k:=lt_add B2z
 replace B3:=B3.keep hkw2
 replace B3c:=B3.cell
 replace B3f:=B3.thawed
 replace B3z:=B3.lt
 replace B3k:=lt_add B3z
 replace B4:=B4.keep hkw2
 replace B4c:=B4.cell
 replace B4f:=B4.thawed
 replace B4z:=B4.lt
 replace B4k:=lt_add B4z
 have hsw2:=hkw2.size
 go_wp2
 exact bodyPost_ret (v:=.tuple #[.agg #[.int .i64 0,.int .i64 0,.slice none 0 0],.agg #[.int .i64 0,.int .i64 0,.slice none 0 0,.int .i64 0,.int .i64 0,.slice none 0 0],.iface 36 (.int .i64 (2))]) (by simp [results,Tryz.results90,go_sem,B3c,B4c]) rfl (backPost_bad HB.out HN.out (Below.x2 hb2 hb1))
theorem layBack_bad5 (h1:l.goFault x=0) (h2:g.fault=0) (h3:g.rows=x.rows) (h4:g.cols=l.wide x.cols) (h5:l.kind=1) (h6:12<x.rows) :
  Calls Tryz.prog 90 #[.agg #[.int .i64 l.kind,.int .i64 l.W.rows,.int .i64 l.W.cols,.slice a n k,.int .i64 l.B.rows,.int .i64 l.B.cols,.slice a' n' k'],.agg #[.int .i64 x.rows,.int .i64 x.cols,.slice a2 n2 k2],.agg #[.int .i64 g.rows,.int .i64 g.cols,.slice a3 n3 k3]] w (BackPost w l x g)
 := by
 have q1:(g.rows != x.rows)=false:=by simp [h3]
 have q2:(g.cols != l.wide x.cols)=false:=by simp [h4]
 have q3:(l.kind == 1)=true:=by simp [h5]
 have HB:Hid (l.backFault x g=1):=Lib.hid (by unfold Lay.backFault;rw [if_neg (by simp [h1]),if_neg (by simp [h2]),if_neg (by simp [h3,h4]),if_pos ⟨h5,h6⟩])
 have HN:Hid ((1:Int)≠0):=Lib.hid (by decide)
 have HE:=Lib.hid (show errV (l.goFault x)=.nilIface from errV_nil h1)
 have HE2:=Lib.hid (show errV (matFault g.rows g.cols g.cells)=.nilIface from errV_nil h2)
 have HK:=Lib.hid (okOr_ok (x:=l.wide x.cols) h1)
 clear h1 h2 h3 h4 h5
 go_enter Tryz.func90,Tryz.ntmps90
 go_wp2_with fail
 refine (layEnter_any l x _ _ _ ⟨_,_,_,_,_,_,_,_,_,_,rfl,x0.alloc _ |>.alloc _ |>.alloc _ |>.alloc _ |>.alloc _,x1.alloc _ |>.alloc _ |>.alloc _ |>.alloc _ |>.alloc _⟩ (MatAt.mk (x2.alloc _ |>.alloc _ |>.alloc _ |>.alloc _ |>.alloc _))).mono ?_
 rw [HE.out,HK.out]
 rintro e w1 ⟨rfl,hb1⟩
 have B0:=((show Box _ w.heap.size [.int .i64 l.kind,.int .i64 l.W.rows,.int .i64 l.W.cols,.slice a n k,.int .i64 l.B.rows,.int .i64 l.B.cols,.slice a' n' k'] 84 from Box.x0)).keep hb1
 have B0c:=B0.cell
 have B0f:=B0.thawed
 have B0z:=B0.lt
 have B0k:=lt_add B0z
 have B1:=((show Box _ (w.heap.size+1) [.int .i64 x.rows,.int .i64 x.cols,.slice a2 n2 k2] 41 from Box.x0)).keep hb1
 have B1c:=B1.cell
 have B1f:=B1.thawed
 have B1z:=B1.lt
 have B1k:=lt_add B1z
 have B2:=((show Box _ (w.heap.size+1+1) [.int .i64 g.rows,.int .i64 g.cols,.slice a3 n3 k3] 41 from Box.x0)).keep hb1
 have B2c:=B2.cell
 have B2f:=B2.thawed
 have B2z:=B2.lt
 have B2k:=lt_add B2z
 have B3:=((show Box _ (w.heap.size+1+1+1) [.int .i64 0,.int .i64 0,.slice none 0 0] 41 from Box.x0)).keep hb1
 have B3c:=B3.cell
 have B3f:=B3.thawed
 have B3z:=B3.lt
 have B3k:=lt_add B3z
 have B4:=((show Box _ (w.heap.size+1+1+1+1) [.int .i64 0,.int .i64 0,.slice none 0 0,.int .i64 0,.int .i64 0,.slice none 0 0] 86 from Box.x0)).keep hb1
 have B4c:=B4.cell
 have B4f:=B4.thawed
 have B4z:=B4.lt
 have B4k:=lt_add B4z
 have hkw1:Below w.heap.size w w1:=(Below.x1 hb1)
 replace x0:=x0.keep hkw1
 replace x1:=x1.keep hkw1
 replace x2:=x2.keep hkw1
 replace x3:=x3.keep hkw1
 have hsw1:=hkw1.size
 go_wp2_with fail
 refine (matCheck_any _ _ _ _ _ _ _ g.cells _ x3).mono ?_
 rw [HE2.out]
 rintro e w2 ⟨rfl,hb2⟩
 have hkw2:Below w1.heap.size w1 w2:=(Below.x1 hb2)
 replace B0:=B0.keep hkw2
 replace B0c:=B0.cell
 replace B0f:=B0.thawed
 replace B0z:=B0.lt
 replace B0k:=lt_add B0z
 replace B1:=B1.keep hkw2
 replace B1c:=B1.cell
 replace B1f:=B1.thawed
 replace B1z:=B1.lt
 replace B1k:=lt_add B1z
 replace B2:=B2.keep hkw2
 replace B2c:=B2.cell
 replace B2f:=B2.thawed
 replace B2z:=B2.lt
 replace B2k:=lt_add B2z
 replace B3:=B3.keep hkw2
 replace B3c:=B3.cell
 replace B3f:=B3.thawed
 replace B3z:=B3.lt
 replace B3k:=lt_add B3z
 replace B4:=B4.keep hkw2
 replace B4c:=B4.cell
 replace B4f:=B4.thawed
 replace B4z:=B4.lt
 replace B4k:=lt_add B4z
 have hsw2:=hkw2.size
 go_wp2
 exact bodyPost_ret (v:=.tuple #[.agg #[.int .i64 0,.int .i64 0,.slice none 0 0],.agg #[.int .i64 0,.int .i64 0,.slice none 0 0,.int .i64 0,.int .i64 0,.slice none 0 0],.iface 36 (.int .i64 (1))]) (by simp [results,Tryz.results90,go_sem,B3c,B4c]) rfl (backPost_bad HB.out HN.out (Below.x2 hb2 hb1))
end
end Go.Proofs.YtchngeagnlngaaaGreatDoor
end
