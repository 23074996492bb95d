/- Texts joined: RBackM, RBack3. -/
import Derived.Test.YtchngeagnlngaaaGreatDoorJ49
set_option linter.unusedVariables false
set_option linter.unusedSimpArgs false
set_option linter.unusedSectionVars false
section
namespace Go.Proofs.YtchngeagnlngaaaGreatDoor
open Go.RowKit Gal
set_option maxRecDepth 100000
set_option maxHeartbeats 4000000
section
variable (ls:List Lay) (ss:List Mat) (L:Lay) (M g:Mat) (F G:Nat→Prop) (a0 a1 ag:Option Addr) (k N n1 ng k0 k1 kg b0 b1 bg o0 o1 og:Nat) (w:World) (hk:N=k+1) (hN:N≤12) (hn1:n1=N+1) (h0:RowAt Form.lay w F a0 N k0 b0 o0 ls) (h1:RowAt Form.mat w G a1 n1 k1 b1 o1 ss) (hg:IntsAt w ag ng kg bg og g.cells) (hL:L=lx ls k) (hM:M=mx ss k)
include hL hM hk hN hn1 h0 h1 hg
theorem refNetBack_more (f:Int) (m:Mat) (ds:List Grd) (hds:ds.length≤12) (hf:L.backFault M g=0) (hkz:k≠0)
    (hrec:∀ (vg:Value) (w':World),Below w.heap.size w w'→MatAt w' vg (L.back M g)→Calls Tryz.prog 46 #[.slice a0 k k0,.slice a1 N k1,vg] w' (
      fun e w''=>∃ u v,e=.returned (.tuple #[u,v,.int .i64 f])∧Below w'.heap.size w' w''∧(f=0→MatApart w'.heap.size w'' u v m∧OwnRow Form.grd 86 w'' w'.heap.size (newB w'.heap.size) v ds)∧(f≠0→u=.agg #[.int .i64 0,.int .i64 0,.slice none 0 0]∧v=.slice none 0 0)
      )) :
    Calls Tryz.prog 46 #[.slice a0 N k0,.slice a1 n1 k1,.agg #[.int .i64 g.rows,.int .i64 g.cols,.slice ag ng kg]] w
    fun e w'=>∃ u v,e=.returned (.tuple #[u,v,.int .i64 f])∧Below w.heap.size w w'∧(f=0→MatApart w.heap.size w' u v m∧OwnRow Form.grd 86 w' w.heap.size (newB w.heap.size) v (ds++[L.grad M g]))∧(f≠0→u=.agg #[.int .i64 0,.int .i64 0,.slice none 0 0]∧v=.slice none 0 0):=by
  have HF:=Lib.hid hf
  have HKZ:=Lib.hid hkz
  have HREC:=Lib.hid hrec
  have HDS:=Lib.hid hds
  have hc0:=h0.le
  have hc1:=h1.le
  have hg8:((k:Int) == 0)=false:=by simp;omega
  have hw9:wrap64 ((k:Int)+1)=(N:Int):=by unfold wrap64;omega
  have hw10:IntKind.i64.wrap ((k:Int)+1)=(N:Int):=by rw [show (k:Int)+1=(N:Int) by omega];exact IntWalk.i64_in _ (by omega)
  have hs1:(k:Int)≤(k0:Int):=by omega
  have hs2:(N:Int)≤(k1:Int):=by omega
  clear hf hkz hrec hds
  obtain rfl:=h0.ptr (by omega)
  obtain rfl:=h1.ptr (by omega)
  obtain ⟨a4,n4,k4,b4,o4,a5,n5,k5,b5,o5,c0,c1,c2,c3,c4,c5,c6,y4,y5⟩:=lay_cells h0 (show k<N by omega)
  obtain ⟨am,nm,km,bm,om,m0,m1,m2,_,ym⟩:=h1.mats.cell k (by omega)
  have hlb0:=h0.lt (by omega)
  have hlb1:=h1.lt (by omega)
  have e1:((N:Int) > 12)=False:=by simp;omega
  have e2:((n1:Int) != wrap64 ((N:Int)+1))=false:=by simp [wrap64];omega
  have e3:((N:Int) == 0)=false:=by simp;omega
  have e4:wrap64 ((N:Int) - 1)=(k:Int):=by unfold wrap64;omega
  have e5:(0:Int)≤(k:Int):=by omega
  have e6:(k:Int)<(N:Int):=by omega
  have e7:(k:Int)<(n1:Int):=by omega
  rw [← hL] at c0 c1 c2 c4 c5 y4 y5
  rw [← hM] at m0 m1 ym
  have HK:=Lib.hid hk
  have HN:=Lib.hid hN
  clear hL hM hk hN hn1
  skip
  have CL:Cells7 w b0 (o0+k*7) _ _ _ _ _ _ _:=⟨c0,c1,c2,c3,c4,c5,c6⟩
  have CM:Cells3 w b1 (o1+k*3) _ _ _:=⟨m0,m1,m2⟩
  clear c0 c1 c2 c3 c4 c5 c6 m0 m1 m2
  go_enter Tryz.func46,Tryz.ntmps46
  go_wp2_with fail
  obtain ⟨w1,hw1,B5,B6,CL1,CM1,z4,z5,zm,zg,hb1⟩:∃ w1,(w.alloc (.cells #[.int .i64 g.rows,.int .i64 g.cols,.slice ag ng kg] 41)).alloc (.cells #[.int .i64 0,.int .i64 0,.slice none 0 0] 41)=w1∧Box w1 w.heap.size [.int .i64 g.rows,.int .i64 g.cols,.slice ag ng kg] 41∧Box w1 (w.heap.size+1) [.int .i64 0,.int .i64 0,.slice none 0 0] 41 ∧
      Cells7 w1 b0 (o0+k*7) (.int .i64 L.kind) (.int .i64 L.W.rows) (.int .i64 L.W.cols) (.slice a4 n4 k4) (.int .i64 L.B.rows) (.int .i64 L.B.cols) (.slice a5 n5 k5)∧Cells3 w1 b1 (o1+k*3) (.int .i64 M.rows) (.int .i64 M.cols) (.slice am nm km)∧IntsAt w1 a4 n4 k4 b4 o4 L.W.cells∧IntsAt w1 a5 n5 k5 b5 o5 L.B.cells∧IntsAt w1 am nm km bm om M.cells∧IntsAt w1 ag ng kg bg og g.cells∧Below w.heap.size w w1:=
    ⟨_,rfl,Box.x0,Box.x0,(by repeat (first|(with_reducible first|exact CL|refine Cells7.alloc ?_ _|refine Cells7.drewN ?_ _|refine Cells7.drew ?_|(refine Cells7.far ?_ ?_ _;rotate_left 1;(first|(dsimp only;omega)|omega|(simp;omega)|simp)))|exact CL)),(by repeat (first|(with_reducible first|exact CM|refine Cells3.alloc ?_ _|refine Cells3.drewN ?_ _|refine Cells3.drew ?_|(refine Cells3.far ?_ ?_ _;rotate_left 1;(first|(dsimp only;omega)|omega|(simp;omega)|simp)))|exact CM)),y4.k,y5.k,ym.k,hg.k,Below.x0⟩
  rw [hw1]
  clear hw1 CL CM y4 y5 ym hg
  have B5:=B5
  have B5c:=B5.cell
  have B5f:=B5.thawed
  have B5z:=B5.lt
  have B5k:=lt_add B5z
  have B6:=B6
  have B6c:=B6.cell
  have B6f:=B6.thawed
  have B6z:=B6.lt
  have B6k:=lt_add B6z
  go_region_held3 (fun w'=>w'.cell? ⟨b0,o0+k*7,none⟩=some (.int .i64 L.kind)∧w'.cell? ⟨b0,o0+k*7+1,none⟩=some (.int .i64 L.W.rows)∧w'.cell? ⟨b0,o0+k*7+2,none⟩=some (.int .i64 L.W.cols)∧w'.cell? ⟨b0,o0+k*7+3,none⟩=some (.slice a4 n4 k4)∧w'.cell? ⟨b0,o0+k*7+4,none⟩=some (.int .i64 L.B.rows)∧w'.cell? ⟨b0,o0+k*7+5,none⟩=some (.int .i64 L.B.cols)∧w'.cell? ⟨b0,o0+k*7+6,none⟩=some (.slice a5 n5 k5)∧w'.cell? ⟨b1,o1+k*3,none⟩=some (.int .i64 M.rows)∧w'.cell? ⟨b1,o1+k*3+1,none⟩=some (.int .i64 M.cols)∧w'.cell? ⟨b1,o1+k*3+2,none⟩=some (.slice am nm km)∧w'.cell? ⟨w.heap.size,0,none⟩=some (.int .i64 g.rows)∧w'.cell? ⟨w.heap.size,1,none⟩=some (.int .i64 g.cols)∧w'.cell? ⟨w.heap.size,2,none⟩=some (.slice ag ng kg)) (exact cells733r (t:=41) (by repeat (first|(with_reducible first|exact CL1|refine Cells7.alloc ?_ _|refine Cells7.drewN ?_ _|refine Cells7.drew ?_|(refine Cells7.far ?_ ?_ _;rotate_left 1;(first|(dsimp only;omega)|omega|(simp;omega)|simp))|refine Cells7.keep ?_ hb7)|exact CL1)) (by repeat (first|(with_reducible first|exact CM1|refine Cells3.alloc ?_ _|refine Cells3.drewN ?_ _|refine Cells3.drew ?_|(refine Cells3.far ?_ ?_ _;rotate_left 1;(first|(dsimp only;omega)|omega|(simp;omega)|simp))|refine Cells3.keep ?_ hb7)|exact CM1)) (by first|exact B5.k1 hb7|exact B5.k)) ((go_at_call 76;go_must (refine (refBackFault_any L M g _ _ _ _ ⟨_,_,_,_,_,_,_,_,_,_,rfl,(show IntsAt _ a4 n4 k4 b4 o4 L.W.cells from z4.k),(show IntsAt _ a5 n5 k5 b5 o5 L.B.cells from z5.k)⟩ (MatAt.mk (show IntsAt _ am nm km bm om M.cells from zm.k)) (MatAt.mk (show IntsAt _ ag ng kg bg og g.cells from zg.k))).mono ?_);rw [HF.out];go_must (rintro e w7 ⟨rfl,hb7⟩)))
  have hc7:Below w1.heap.size w1 w7:=(Below.x1 hb7)
  replace CL1:=CL1.keep hc7
  have hkw7:Below w1.heap.size w1 w7:=(Below.x1 hc7)
  replace B5:=B5.keep hkw7
  replace B5c:=B5.cell
  replace B5f:=B5.thawed
  replace B5z:=B5.lt
  replace B5k:=lt_add B5z
  replace B6:=B6.keep hkw7
  replace B6c:=B6.cell
  replace B6f:=B6.thawed
  replace B6z:=B6.lt
  replace B6k:=lt_add B6z
  replace z4:=z4.keep hkw7
  replace z5:=z5.keep hkw7
  replace zm:=zm.keep hkw7
  replace zg:=zg.keep hkw7
  replace CM1:=CM1.keep hc7
  have hbw7:Below w.heap.size w w7:=(Below.y1 hc7 hb1)
  go_wp2_with fail
  go_cut [12,13] (fun s12 s13 wx=>∃ p q a7 n7 k7 b7 o7 a8 n8 k8 b8 o8 a9 n9 k9 b9 o9,s12=.pointer (some ⟨p,0,none⟩)∧s13=.pointer (some ⟨q,0,none⟩)∧Box wx p [.int .i64 (L.back M g).rows,.int .i64 (L.back M g).cols,.slice a7 n7 k7] 41∧Box wx q [.int .i64 (L.grad M g).W.rows,.int .i64 (L.grad M g).W.cols,.slice a8 n8 k8,.int .i64 (L.grad M g).B.rows,.int .i64 (L.grad M g).B.cols,.slice a9 n9 k9] 86∧IntsAt wx a7 n7 k7 b7 o7 (L.back M g).cells∧IntsAt wx a8 n8 k8 b8 o8 (L.grad M g).W.cells∧IntsAt wx a9 n9 k9 b9 o9 (L.grad M g).B.cells∧(0<n7→w7.heap.size≤b7)∧(0<n8→w7.heap.size≤b8∧b8<wx.heap.size)∧(0<n9→w7.heap.size≤b9∧b9<wx.heap.size)∧w7.heap.size≤p∧w7.heap.size≤q∧Below w7.heap.size w7 wx)
  case first=>
    go_region_held3 (fun w'=>w'.cell? ⟨b0,o0+k*7,none⟩=some (.int .i64 L.kind)∧w'.cell? ⟨b0,o0+k*7+1,none⟩=some (.int .i64 L.W.rows)∧w'.cell? ⟨b0,o0+k*7+2,none⟩=some (.int .i64 L.W.cols)∧w'.cell? ⟨b0,o0+k*7+3,none⟩=some (.slice a4 n4 k4)∧w'.cell? ⟨b0,o0+k*7+4,none⟩=some (.int .i64 L.B.rows)∧w'.cell? ⟨b0,o0+k*7+5,none⟩=some (.int .i64 L.B.cols)∧w'.cell? ⟨b0,o0+k*7+6,none⟩=some (.slice a5 n5 k5)∧w'.cell? ⟨b1,o1+k*3,none⟩=some (.int .i64 M.rows)∧w'.cell? ⟨b1,o1+k*3+1,none⟩=some (.int .i64 M.cols)∧w'.cell? ⟨b1,o1+k*3+2,none⟩=some (.slice am nm km)∧w'.cell? ⟨w.heap.size,0,none⟩=some (.int .i64 g.rows)∧w'.cell? ⟨w.heap.size,1,none⟩=some (.int .i64 g.cols)∧w'.cell? ⟨w.heap.size,2,none⟩=some (.slice ag ng kg)) (exact cells733r (t:=41) (by repeat (first|(with_reducible first|exact CL1|refine Cells7.alloc ?_ _|refine Cells7.drewN ?_ _|refine Cells7.drew ?_|(refine Cells7.far ?_ ?_ _;rotate_left 1;(first|(dsimp only;omega)|omega|(simp;omega)|simp))|refine Cells7.keep ?_ hb8)|exact CL1)) (by repeat (first|(with_reducible first|exact CM1|refine Cells3.alloc ?_ _|refine Cells3.drewN ?_ _|refine Cells3.drew ?_|(refine Cells3.far ?_ ?_ _;rotate_left 1;(first|(dsimp only;omega)|omega|(simp;omega)|simp))|refine Cells3.keep ?_ hb8)|exact CM1)) (by first|exact B5.k1 hb8|exact B5.k)) ((go_at_call 77;go_must (refine (refBackOf_any L M g _ _ _ _ ⟨_,_,_,_,_,_,_,_,_,_,rfl,(show IntsAt _ a4 n4 k4 b4 o4 L.W.cells from z4.k),(show IntsAt _ a5 n5 k5 b5 o5 L.B.cells from z5.k)⟩ (MatAt.mk (show IntsAt _ am nm km bm om M.cells from zm.k)) (MatAt.mk (show IntsAt _ ag ng kg bg og g.cells from zg.k)) HF.out).mono ?_);go_must (rintro e w8 ⟨v8,d8,rfl,⟨a7,n7,k7,b7,o7,rfl,hn7,x7⟩,⟨a8,n8,k8,b8,o8,a9,n9,k9,b9,o9,rfl,hn8,x8,hn9,x9⟩,hb8⟩);(try (refine (fun (P1:Box w8 (w7.heap.size) [.int .i64 0,.int .i64 0,.slice none 0 0] 41)=>?_) ?_;rotate_left 1;(with_reducible refine Box.keep ?_ hb8);(focus ((repeat (first|(with_reducible refine (Box.new' _ (w7.heap.size) _ _ ?_);(simp;done))|(with_reducible refine Box.alloc ?_ _)|(with_reducible refine Box.drew ?_)|(with_reducible refine Box.drewN ?_ _)));done));have P1c:=P1.cell;have P1f:=P1.thawed;have P1z:=P1.lt));(try (refine (fun (P2:Box w8 (w7.heap.size) [.int .i64 0,.int .i64 0,.slice none 0 0,.int .i64 0,.int .i64 0,.slice none 0 0] 86)=>?_) ?_;rotate_left 1;(with_reducible refine Box.keep ?_ hb8);(focus ((repeat (first|(with_reducible refine (Box.new' _ (w7.heap.size) _ _ ?_);(simp;done))|(with_reducible refine Box.alloc ?_ _)|(with_reducible refine Box.drew ?_)|(with_reducible refine Box.drewN ?_ _)));done));have P2c:=P2.cell;have P2f:=P2.thawed;have P2z:=P2.lt));(try (refine (fun (P3:Box w8 (w7.heap.size+1) [.int .i64 0,.int .i64 0,.slice none 0 0] 41)=>?_) ?_;rotate_left 1;(with_reducible refine Box.keep ?_ hb8);(focus ((repeat (first|(with_reducible refine (Box.new' _ (w7.heap.size+1) _ _ ?_);(simp;done))|(with_reducible refine Box.alloc ?_ _)|(with_reducible refine Box.drew ?_)|(with_reducible refine Box.drewN ?_ _)));done));have P3c:=P3.cell;have P3f:=P3.thawed;have P3z:=P3.lt));(try (refine (fun (P4:Box w8 (w7.heap.size+1) [.int .i64 0,.int .i64 0,.slice none 0 0,.int .i64 0,.int .i64 0,.slice none 0 0] 86)=>?_) ?_;rotate_left 1;(with_reducible refine Box.keep ?_ hb8);(focus ((repeat (first|(with_reducible refine (Box.new' _ (w7.heap.size+1) _ _ ?_);(simp;done))|(with_reducible refine Box.alloc ?_ _)|(with_reducible refine Box.drew ?_)|(with_reducible refine Box.drewN ?_ _)));done));have P4c:=P4.cell;have P4f:=P4.thawed;have P4z:=P4.lt))))
    all_goals (
      go_wp2_with fail
      go_meet
      have hl8:=x8.lt
      have hl9:=x9.lt
      have hz8:=hb8.size
      simp at hn7 hn8 hn9 hz8
      have hm7:0<n7→w7.heap.size≤b7:=fun h=>by have:=hn7 h;omega
      have hm8:0<n8→w7.heap.size≤b8:=fun h=>by have:=hn8 h;omega
      have hm9:0<n9→w7.heap.size≤b9:=fun h=>by have:=hn9 h;omega
      exact ⟨_,_,a7,n7,k7,b7,o7,a8,n8,k8,b8,o8,a9,n9,k9,b9,o9,rfl,rfl,(by repeat (first|(with_reducible first|(refine (Box.new' _ _ _ _ ?_);(simp;done))|refine Box.alloc ?_ _|refine Box.drewN ?_ _|refine Box.drew ?_|refine Box.set6z ?_ _ _ _ _ _ _|refine Box.set3z ?_ _ _ _|refine Box.fx ?_ _|refine Box.keep ?_ hb8))),(by repeat (first|(with_reducible first|(refine (Box.new' _ _ _ _ ?_);(simp;done))|refine Box.alloc ?_ _|refine Box.drewN ?_ _|refine Box.drew ?_|refine Box.set6z ?_ _ _ _ _ _ _|refine Box.set3z ?_ _ _ _|refine Box.fx ?_ _|refine Box.keep ?_ hb8))),(by repeat (first|(with_reducible first|exact x7|refine IntsAt.alloc ?_ _|refine IntsAt.drewN ?_ _|refine IntsAt.drew ?_|(refine IntsAt.set ?_ ?_ _;rotate_left 1;(intro h0;have hq0:=hn7 h0;first|(dsimp only;omega)|omega|(simp;omega)|simp)))|exact x7)),(by repeat (first|(with_reducible first|exact x8|refine IntsAt.alloc ?_ _|refine IntsAt.drewN ?_ _|refine IntsAt.drew ?_|(refine IntsAt.set ?_ ?_ _;rotate_left 1;(intro h0;have hq0:=hn8 h0;first|(dsimp only;omega)|omega|(simp;omega)|simp)))|exact x8)),(by repeat (first|(with_reducible first|exact x9|refine IntsAt.alloc ?_ _|refine IntsAt.drewN ?_ _|refine IntsAt.drew ?_|(refine IntsAt.set ?_ ?_ _;rotate_left 1;(intro h0;have hq0:=hn9 h0;first|(dsimp only;omega)|omega|(simp;omega)|simp)))|exact x9)),hm7,(fun h=>⟨hm8 h,by have:=hl8 h;simp;omega⟩),(fun h=>⟨hm9 h,by have:=hl9 h;simp;omega⟩),(by first|exact Nat.le_refl _|(simp;omega)|omega),(by first|exact Nat.le_refl _|(simp;omega)|omega),(Below.x1 hb8)⟩)
  case rest=>
  obtain ⟨p,q,a7,n7,k7,b7,o7,a8,n8,k8,b8,o8,a9,n9,k9,b9,o9,rfl,rfl,P,Q,x7,x8,x9,hm7,hm8,hm9,hp7,hq7,hbc⟩:=hcut
  obtain ⟨wd,rfl⟩:∃ wd,wd=wc:=⟨_,rfl⟩
  have hz6:w.heap.size+1<w7.heap.size:=B6.lt
  have hkwd:Below w7.heap.size w7 wd:=(Below.x1 hbc)
  replace B6:=B6.keep hkwd
  replace B6c:=B6.cell
  replace B6f:=B6.thawed
  replace B6z:=B6.lt
  replace B6k:=lt_add B6z
  have P:=P
  have Pc:=P.cell
  have Pf:=P.thawed
  have Pz:=P.lt
  have Pk:=lt_add Pz
  have Q:=Q
  have Qc:=Q.cell
  have Qf:=Q.thawed
  have Qz:=Q.lt
  have Qk:=lt_add Qz
  have hbwd:Below w.heap.size w wd:=(Below.y1 hbc hbw7)
  have hz7:=hbw7.size
  have hzc:=hbc.size
  clear CL1 CM1 z4 z5 zm zg B5 B5c B5f B5z B5k
  by_cases hff:f=0
  · subst hff
    go_wp2_with fail
    go_cut [11,14,15] (fun s11 s14 s15 wx=>∃ r a n c b o,s11=.int .i64 0∧s14=.pointer (some ⟨r,0,none⟩)∧Box wx r [.int .i64 m.rows,.int .i64 m.cols,.slice a n c] 41∧(0<n→wd.heap.size≤b∧s15.ownBlock≠some b)∧IntsAt wx a n c b o m.cells∧OwnRow Form.grd 86 wx wd.heap.size (newB w7.heap.size) s15 ds∧wd.heap.size≤r∧Below wd.heap.size wd wx)
    case first=>
      go_region_held3 (fun w'=>w'.cell? ⟨p,0,none⟩=some (.int .i64 (L.back M g).rows)∧w'.cell? ⟨p,1,none⟩=some (.int .i64 (L.back M g).cols)∧w'.cell? ⟨p,2,none⟩=some (.slice a7 n7 k7)∧w'.cell? ⟨q,0,none⟩=some (.int .i64 (L.grad M g).W.rows)∧w'.cell? ⟨q,1,none⟩=some (.int .i64 (L.grad M g).W.cols)∧w'.cell? ⟨q,2,none⟩=some (.slice a8 n8 k8)∧w'.cell? ⟨q,3,none⟩=some (.int .i64 (L.grad M g).B.rows)∧w'.cell? ⟨q,4,none⟩=some (.int .i64 (L.grad M g).B.cols)∧w'.cell? ⟨q,5,none⟩=some (.slice a9 n9 k9)) (exact cells3_6 (t:=41) (u:=86) (by first|exact P.k1 hb8|exact P.k) (by first|exact Q.k1 hb8|exact Q.k)) ((go_at_call 46;go_must (refine (HREC.out _ _ (Below.y0 hbwd) (MatAt.mk (show IntsAt _ a7 n7 k7 b7 o7 (L.back M g).cells from x7.k))).mono ?_);go_must (rintro e w8 ⟨u,v,rfl,hb8,hz,_⟩;obtain ⟨⟨aU,nU,cU,bU,oU,rfl,hU,xU⟩,hown⟩:=hz (by first|rfl|trivial));(try (refine (fun (P1:Box w8 (wd.heap.size) [.int .i64 0,.int .i64 0,.slice none 0 0] 41)=>?_) ?_;rotate_left 1;(with_reducible refine Box.keep ?_ hb8);(focus ((repeat (first|(with_reducible refine (Box.new' _ (wd.heap.size) _ _ ?_);(simp;done))|(with_reducible refine Box.alloc ?_ _)|(with_reducible refine Box.drew ?_)|(with_reducible refine Box.drewN ?_ _)));done));have P1c:=P1.cell;have P1f:=P1.thawed;have P1z:=P1.lt))))
      all_goals (
        go_wp2_with fail
        go_meet
        have hz8:=hb8.size
        have hob:=hown.base_le
        have hlU:=xU.lt
        have hU3:=fun h=>(hU h).1
        have hU4:=fun h=>(hU h).2
        simp at hz8 hU3 hob
        have hU2:0<nU→wd.heap.size≤bU∧v.ownBlock≠some bU:=fun h=>⟨by have:=hU3 h;omega,hU4 h⟩
        refine ⟨_,aU,nU,cU,bU,oU,rfl,rfl,(by repeat (first|(with_reducible first|(refine (Box.new' _ _ _ _ ?_);(simp;done))|refine Box.alloc ?_ _|refine Box.drewN ?_ _|refine Box.drew ?_|refine Box.set6z ?_ _ _ _ _ _ _|refine Box.set3z ?_ _ _ _|refine Box.fx ?_ _|refine Box.keep ?_ hb8))),hU2,(by repeat (first|(with_reducible first|exact xU|refine IntsAt.alloc ?_ _|refine IntsAt.drewN ?_ _|refine IntsAt.drew ?_|(refine IntsAt.set ?_ ?_ _;rotate_left 1;(intro h0;have hq0:=hU3 h0;have hq1:=hlU h0;first|(dsimp only;omega)|omega|(simp;omega)|simp)))|exact xU)),?_,?_,(Below.x1 hb8)⟩
        · first
          | exact ((hown.keep ((Below.refl _ _).alloc (Nat.le_refl _) _)).low (by simp)).wide (fun b hb _=>by unfold newB at *;simp at hb;omega)
          | exact ((((hown.set (fun e=>by have:=(hob _ e).1;dsimp only at this;omega) (fun e=>by unfold newB at e;simp at e;omega) _).set (fun e=>by have:=(hob _ e).1;dsimp only at this;omega) (fun e=>by unfold newB at e;simp at e;omega) _).set (fun e=>by have:=(hob _ e).1;dsimp only at this;omega) (fun e=>by unfold newB at e;simp at e;omega) _).low (by simp)).wide (fun b hb _=>by unfold newB at *;simp at hb;omega)
        · first|exact Nat.le_refl _|(simp;omega)|omega)
    case rest=>
      obtain ⟨r,aU,nU,cU,bU,oU,rfl,rfl,R,hU,xU,hown,hr,hbx⟩:=hcut
      obtain ⟨wf,rfl⟩:∃ wf,wf=wc:=⟨_,rfl⟩
      have hq8:q<wd.heap.size:=Q.lt
      have hzd:=hbwd.size
      have hkwf:Below wd.heap.size wd wf:=(Below.x1 hbx)
      replace B6:=B6.keep hkwf
      replace B6c:=B6.cell
      replace B6f:=B6.thawed
      replace B6z:=B6.lt
      replace B6k:=lt_add B6z
      replace Q:=Q.keep hkwf
      replace Qc:=Q.cell
      replace Qf:=Q.thawed
      replace Qz:=Q.lt
      replace Qk:=lt_add Qz
      replace x8:=x8.keep hkwf
      replace x9:=x9.keep hkwf
      have R:=R
      have Rc:=R.cell
      have Rf:=R.thawed
      have Rz:=R.lt
      have Rk:=lt_add Rz
      have hbe:Below w.heap.size w wf:=(Below.y1 hbx hbwd)
      obtain ⟨av,cv,rfl⟩:=hown.slice
      have hob:=hown.base_le
      have HOB:=Lib.hid hob
      have hne:(Value.slice av ds.length cv).ownBlock≠some r:=hown.ne_box R (by decide)
      have hnq:(Value.slice av ds.length cv).ownBlock≠some q:=fun e=>by have:=(hob _ e).1;omega
      have HNE:=Lib.hid hne
      have HNQ:=Lib.hid hnq
      have HOWN:=Lib.hid hown
      have q8:0<n8→newB w7.heap.size b8∧(Value.slice av ds.length cv).ownBlock≠some b8:=fun h=>⟨(hm8 h).1,fun e=>by have:=(hob _ e).1;have:=(hm8 h).2;omega⟩
      have q9:0<n9→newB w7.heap.size b9∧(Value.slice av ds.length cv).ownBlock≠some b9:=fun h=>⟨(hm9 h).1,fun e=>by have:=(hob _ e).1;have:=(hm9 h).2;omega⟩
      have HQ8:=Lib.hid q8
      have HQ9:=Lib.hid q9
      obtain ⟨i0,hi,hz0,hz1,hz2⟩:=info_parts info_grad
      clear hob hne hnq q8 q9
      have hlU:=xU.lt
      have HU:=Lib.hid hU
      go_wp2_with fail
      go_region_held3 (fun w'=>w'.cell? ⟨r,0,none⟩=some (.int .i64 m.rows)∧w'.cell? ⟨r,1,none⟩=some (.int .i64 m.cols)∧w'.cell? ⟨r,2,none⟩=some (.slice aU nU cU)∧w'.cell? ⟨q,0,none⟩=some (.int .i64 (L.grad M g).W.rows)∧w'.cell? ⟨q,1,none⟩=some (.int .i64 (L.grad M g).W.cols)∧w'.cell? ⟨q,2,none⟩=some (.slice a8 n8 k8)∧w'.cell? ⟨q,3,none⟩=some (.int .i64 (L.grad M g).B.rows)∧w'.cell? ⟨q,4,none⟩=some (.int .i64 (L.grad M g).B.cols)∧w'.cell? ⟨q,5,none⟩=some (.slice a9 n9 k9)) (exact cells3_6 (show Box _ r [.int .i64 m.rows,.int .i64 m.cols,.slice aU nU cU] 41 from (by repeat (first|(with_reducible first|exact ZR|exact R|refine Box.alloc ?_ _|refine Box.drewN ?_ _|refine Box.drew ?_|refine Box.fx ?_ _)|exact ZR|exact R))) (show Box _ q [.int .i64 (L.grad M g).W.rows,.int .i64 (L.grad M g).W.cols,.slice a8 n8 k8,.int .i64 (L.grad M g).B.rows,.int .i64 (L.grad M g).B.cols,.slice a9 n9 k9] 86 from (by repeat (first|(with_reducible first|exact ZQ|exact Q|refine Box.alloc ?_ _|refine Box.drewN ?_ _|refine Box.drew ?_|refine Box.fx ?_ _)|exact ZQ|exact Q))))
        (first
        | ((refine at_oper ⟨some 93,_,_,_,_,_⟩ ?_;go_must (refine step_push rfl (.tmp 90) (.tmp 92) 23 rfl Form.grd wd.heap.size (newB w7.heap.size) 86 i0 (.agg #[.int .i64 0,.int .i64 0,.slice none 0 0,.int .i64 0,.int .i64 0,.slice none 0 0]) 80 Tryz.underlying23 hi hz0 hz1 hz2 (by rfl) (by decide) (.slice av ds.length cv) ds (by rfl) (OwnRow.keep HOWN.out Below.x0) wf.heap.size 1 [.int .i64 (L.grad M g).W.rows,.int .i64 (L.grad M g).W.cols,.slice a8 n8 k8,.int .i64 (L.grad M g).B.rows,.int .i64 (L.grad M g).B.cols,.slice a9 n9 k9] 86 (L.grad M g) (by rfl) Box.x0 (reads_grd (d:=L.grad M g) (F:=fun b=>newB w7.heap.size b∧(Value.slice av ds.length cv).ownBlock≠some b) (b:=b8) (b':=b9) (o:=o8) (o':=o9) HQ8.out x8.k HQ9.out x9.k) (by have:=HDS.out;omega) (by have:=HDS.out;unfold maxLen;omega) (by simp;omega) _ rfl ?_);intro g1 cap1 w9 hown1 hgrow hat hlt1;
            have ZR:Box w9 r [.int .i64 m.rows,.int .i64 m.cols,.slice aU nU cU] 41:=Box.grown R.k hgrow (Ne.symm HNE.out);have ZQ:Box w9 q [.int .i64 (L.grad M g).W.rows,.int .i64 (L.grad M g).W.cols,.slice a8 n8 k8,.int .i64 (L.grad M g).B.rows,.int .i64 (L.grad M g).B.cols,.slice a9 n9 k9] 86:=Box.grown Q.k hgrow (Ne.symm HNQ.out);have Z6:Box w9 (w.heap.size+1) [.int .i64 0,.int .i64 0,.slice none 0 0] 41:=Box.grown B6.k hgrow (fun e=>by have:=(HOB.out _ e.symm).1;omega);have hb9:Below w.heap.size w w9:=Below.grown (Below.y0 hbe) hgrow (by simp;omega) (fun q hq=>by have:=(HOB.out q hq).1;omega);have zU:IntsAt w9 aU nU cU bU oU m.cells:=IntsAt.grown (show IntsAt _ aU nU cU bU oU m.cells from xU.k) hgrow (fun h e=>(HU.out h).2 e.symm);have Z6c:=Z6.cell;have Z6f:=Z6.thawed))
        | fail)
      all_goals (
        have hne1:0<nU→w.heap.size≤bU∧(Value.slice (some ⟨g1,0,none⟩) (ds.length+1) cap1).ownBlock≠some bU:=fun h=>⟨by have:=(HU.out h).1;omega,fun e=>by
          simp [Value.ownBlock] at e
          rcases hat with h1|h1
          · exact (HU.out h).2 (by rw [h1,e])
          · have:=hlU h
            simp at h1
            omega⟩
        have hneU:0<nU→wd.heap.size≤bU:=fun h=>(HU.out h).1
        have hv1:(Value.slice (some ⟨g1,0,none⟩) (ds.length+1) cap1).ownBlock≠some (w.heap.size+1):=fun e=>by have:=(hown1.base_le _ e).1;omega
        have hF1:¬ newB w7.heap.size (w.heap.size+1):=fun e=>by unfold newB at e;omega
        go_wp2
        refine bodyPost_ret (v:=.tuple #[.agg #[.int .i64 m.rows,.int .i64 m.cols,.slice aU nU cU],.slice (some ⟨g1,0,none⟩) (ds.length+1) cap1,.int .i64 0]) (run_of_box (b:=w.heap.size+1) (cs:=[.int .i64 m.rows,.int .i64 m.cols,.slice aU nU cU]) (t:=41) (by repeat (first|(with_reducible first|exact Z6|refine Box.alloc ?_ _|refine Box.drewN ?_ _|refine Box.drew ?_|refine Box.set6z ?_ _ _ _ _ _ _|refine Box.set3z ?_ _ _ _|refine Box.fx ?_ _)|exact Z6)) (fun Z=>by simp [results,Tryz.results46,go_sem,Z.cell])) rfl ⟨_,_,rfl,(Below.y0 hb9),⟨aU,nU,cU,bU,oU,rfl,hne1,(by repeat (first|(with_reducible first|exact zU|refine IntsAt.alloc ?_ _|refine IntsAt.drewN ?_ _|refine IntsAt.drew ?_|(refine IntsAt.set ?_ ?_ _;rotate_left 1;(intro h0;have hq0:=hneU h0;first|(dsimp only;omega)|omega|(simp;omega)|simp)))|exact zU))⟩,((((hown1.set hv1 hF1 _).set hv1 hF1 _).set hv1 hF1 _).low (by omega)).wide (fun b hb _=>by unfold newB at *;omega)⟩)
  · have HFF:=Lib.hid hff
    have e8:(f != 0)=true:=by simp [hff]
    clear hff
    go_wp2_with fail
    go_cut [11] (fun s11 wx=>s11=.int .i64 f∧Below wd.heap.size wd wx)
    case first=>
      go_region_held3 (fun w'=>w'.cell? ⟨p,0,none⟩=some (.int .i64 (L.back M g).rows)∧w'.cell? ⟨p,1,none⟩=some (.int .i64 (L.back M g).cols)∧w'.cell? ⟨p,2,none⟩=some (.slice a7 n7 k7)∧w'.cell? ⟨q,0,none⟩=some (.int .i64 (L.grad M g).W.rows)∧w'.cell? ⟨q,1,none⟩=some (.int .i64 (L.grad M g).W.cols)∧w'.cell? ⟨q,2,none⟩=some (.slice a8 n8 k8)∧w'.cell? ⟨q,3,none⟩=some (.int .i64 (L.grad M g).B.rows)∧w'.cell? ⟨q,4,none⟩=some (.int .i64 (L.grad M g).B.cols)∧w'.cell? ⟨q,5,none⟩=some (.slice a9 n9 k9)) (exact cells3_6 (t:=41) (u:=86) (by first|exact P.k1 hb8|exact P.k) (by first|exact Q.k1 hb8|exact Q.k)) ((go_at_call 46;go_must (refine (HREC.out _ _ (Below.y0 hbwd) (MatAt.mk (show IntsAt _ a7 n7 k7 b7 o7 (L.back M g).cells from x7.k))).mono ?_);go_must (rintro e w8 ⟨u,v,rfl,hb8,_,hz⟩;obtain ⟨rfl,rfl⟩:=hz HFF.out);(try (refine (fun (P1:Box w8 (wd.heap.size) [.int .i64 0,.int .i64 0,.slice none 0 0] 41)=>?_) ?_;rotate_left 1;(with_reducible refine Box.keep ?_ hb8);(focus ((repeat (first|(with_reducible refine (Box.new' _ (wd.heap.size) _ _ ?_);(simp;done))|(with_reducible refine Box.alloc ?_ _)|(with_reducible refine Box.drew ?_)|(with_reducible refine Box.drewN ?_ _)));done));have P1c:=P1.cell;have P1f:=P1.thawed;have P1z:=P1.lt))))
      all_goals (
        go_wp2_with fail
        go_meet
        exact ⟨rfl,(Below.x1 hb8)⟩)
    case rest=>
      obtain ⟨rfl,hbx⟩:=hcut
      have hkwc:Below wd.heap.size wd wc:=(Below.x1 hbx)
      replace B6:=B6.keep hkwc
      replace B6c:=B6.cell
      replace B6f:=B6.thawed
      replace B6z:=B6.lt
      replace B6k:=lt_add B6z
      have hbe:Below w.heap.size w wc:=(Below.y1 hbx hbwd)
      go_wp2
      exact bodyPost_ret (v:=.tuple #[.agg #[.int .i64 0,.int .i64 0,.slice none 0 0],.slice none 0 0,.int .i64 f]) (by simp [results,Tryz.results46,go_sem,B6c]) rfl ⟨_,_,rfl,(Below.y0 hbe),fun h=>absurd h HFF.out,fun _=>⟨rfl,rfl⟩⟩
end
end Go.Proofs.YtchngeagnlngaaaGreatDoor
end
section
namespace Go.Proofs.YtchngeagnlngaaaGreatDoor
open Go.RowKit Gal
set_option maxRecDepth 100000
set_option maxHeartbeats 4000000
theorem refNetBack_pos (k:Nat):∀ (ls:List Lay) (ss:List Mat) (g:Mat) (F G:Nat→Prop) (a0 a1 ag:Option Addr) (N n1 ng k0 k1 kg b0 b1 bg o0 o1 og:Nat) (w:World),N=k+1→N≤12→n1=N+1→RowAt Form.lay w F a0 N k0 b0 o0 ls→RowAt Form.mat w G a1 n1 k1 b1 o1 ss→IntsAt w ag ng kg bg og g.cells →
  Calls Tryz.prog 46 #[.slice a0 N k0,.slice a1 n1 k1,.agg #[.int .i64 g.rows,.int .i64 g.cols,.slice ag ng kg]] w fun e w'=>∃ u v,e=.returned (.tuple #[u,v,.int .i64 (bF ls ss g N N)])∧Below w.heap.size w w' ∧
   (bF ls ss g N N=0→MatApart w.heap.size w' u v (bM ls ss g N N)∧OwnRow Form.grd 86 w' w.heap.size (newB w.heap.size) v (bDs ls ss g N))∧(bF ls ss g N N≠0→u=.agg #[.int .i64 0,.int .i64 0,.slice none 0 0]∧v=.slice none 0 0):=by
 induction k with
 | zero=>
  intro ls ss g F G a0 a1 ag N n1 ng k0 k1 kg b0 b1 bg o0 o1 og w hN h12 hn1 h0 h1 hg
  subst hN
  by_cases hf:(lx ls 0).backFault (mx ss 0) g=0
  ·have hF:bF ls ss g (0+1) (0+1)=0:=by rw [bF_one];exact hf
   refine (refNetBack_one ls ss (lx ls 0) (mx ss 0) g F G a0 a1 ag 0 (0+1) n1 ng k0 k1 kg b0 b1 bg o0 o1 og w rfl h12 hn1 h0 h1 hg rfl rfl hf rfl).mono ?_
   rintro e w' ⟨u,v,rfl,hb,hu,hv⟩
   exact ⟨u,v,by rw [hF],hb,fun _=>⟨hu,hv⟩,fun h=>absurd hF h⟩
  ·have hF:bF ls ss g (0+1) (0+1)=(lx ls 0).backFault (mx ss 0) g:=bF_one
   refine (refNetBack_bad ls ss (lx ls 0) (mx ss 0) g F G a0 a1 ag 0 (0+1) n1 ng k0 k1 kg b0 b1 bg o0 o1 og w rfl h12 hn1 h0 h1 hg rfl rfl hf).mono ?_
   rintro e w' ⟨rfl,hb⟩
   exact ⟨_,_,by rw [hF],hb,fun h=>absurd (hF.symm.trans h) hf,fun _=>⟨rfl,rfl⟩⟩
 | succ k ih=>
  intro ls ss g F G a0 a1 ag N n1 ng k0 k1 kg b0 b1 bg o0 o1 og w hN h12 hn1 h0 h1 hg
  subst hN
  by_cases hf:(lx ls (k+1)).backFault (mx ss (k+1)) g=0
  ·have hf1:bF ls ss g (k+1+1) 1=0:=by rw [bF_one];exact hf
   have hF:=bF_take (ls:=ls) (ss:=ss) (g:=g) (k:=k+1) hf1 (k+1) (Nat.le_refl _)
   have hM:=bM_take (ls:=ls) (ss:=ss) (g:=g) (k:=k+1) (k+1) (Nat.le_refl _)
   have hD:=bDs_take (ls:=ls) (ss:=ss) (g:=g) (k:=k+1)
   rw [bM_one] at hF hM hD
   refine (refNetBack_more ls ss (lx ls (k+1)) (mx ss (k+1)) g F G a0 a1 ag (k+1) (k+1+1) n1 ng k0 k1 kg b0 b1 bg o0 o1 og w rfl h12 hn1 h0 h1 hg rfl rfl (bF (ls.take (k+1)) (ss.take (k+1+1)) ((lx ls (k+1)).back (mx ss (k+1)) g) (k+1) (k+1)) (bM (ls.take (k+1)) (ss.take (k+1+1)) ((lx ls (k+1)).back (mx ss (k+1)) g) (k+1) (k+1)) (bDs (ls.take (k+1)) (ss.take (k+1+1)) ((lx ls (k+1)).back (mx ss (k+1)) g) (k+1)) (by rw [bDs_length];omega) hf (by omega) ?_).mono ?_
   ·intro vg w' hb hv
    obtain ⟨ag',ng',kg',bg',og',rfl,x⟩:=hv
    exact ih (ls.take (k+1)) (ss.take (k+1+1)) _ F G a0 a1 ag' (k+1) (k+1+1) ng' k0 k1 kg' b0 b1 bg' o0 o1 og' w' rfl (by omega) rfl ((h0.keep hb).take (by omega)) ((h1.keep hb).take (by omega)) x
   ·rintro e w' ⟨u,v,rfl,hb,h2,h3⟩
    rw [hF] at h2 h3
    rw [hM] at h2
    refine ⟨u,v,by rw [hF],hb,fun h=>?_,h3⟩
    rw [hD]
    exact h2 h
  ·have hF:bF ls ss g (k+1+1) (k+1+1)=(lx ls (k+1)).backFault (mx ss (k+1)) g:=by
    rw [bF_stays (k:=1) (by omega) (by rw [bF_one];exact hf),bF_one]
   refine (refNetBack_bad ls ss (lx ls (k+1)) (mx ss (k+1)) g F G a0 a1 ag (k+1) (k+1+1) n1 ng k0 k1 kg b0 b1 bg o0 o1 og w rfl h12 hn1 h0 h1 hg rfl rfl hf).mono ?_
   rintro e w' ⟨rfl,hb⟩
   exact ⟨_,_,by rw [hF],hb,fun h=>absurd (hF.symm.trans h) hf,fun _=>⟨rfl,rfl⟩⟩
def RefBackEnd (w:World) (ls:List Lay) (ss:List Mat) (g:Mat) (n:Nat) (e:Ending) (w':World):Prop:=
 ∃ u v,e=.returned (.tuple #[u,v,.int .i64 (netBackFault ls ss g)])∧Below w.heap.size w w'∧(netBackFault ls ss g=0→MatAt w' u (bM ls ss g n n)∧∃ a k b,v=.slice a n k∧RowAt Form.grd w' anyB a n k b 0 (bDs ls ss g n)) ∧
  (netBackFault ls ss g≠0→u=.agg #[.int .i64 0,.int .i64 0,.slice none 0 0]∧v=.slice none 0 0)
theorem refNetBack_any (ls:List Lay) (ss:List Mat) (g:Mat) (F G:Nat→Prop) (a0 a1:Option Addr) (n n1 k0 k1 b0 b1 o0 o1:Nat) (vg:Value) (w:World) (h0:RowAt Form.lay w F a0 n k0 b0 o0 ls) (h1:RowAt Form.mat w G a1 n1 k1 b1 o1 ss) (hg:MatAt w vg g) :
  Calls Tryz.prog 46 #[.slice a0 n k0,.slice a1 n1 k1,vg] w (RefBackEnd w ls ss g n):=by
 have hl0:=h0.len
 have hl1:=h1.len
 have hm0:=h0.max
 have hm1:=h1.max
 unfold maxLen at hm0 hm1
 obtain ⟨ag,ng,kg,bg,og,rfl,xg⟩:=hg
 by_cases h12:12<n
 ·have hF:netBackFault ls ss g=3:=by unfold netBackFault;rw [if_pos (by omega)]
  have e1:((n:Int) > 12)=True:=by simp;omega
  unfold RefBackEnd
  rw [hF]
  clear hF
  go_enter Tryz.func46,Tryz.ntmps46
  go_wp2
  exact bodyPost_ret (v:=.tuple #[.agg #[.int .i64 0,.int .i64 0,.slice none 0 0],.slice none 0 0,.int .i64 3]) (by simp [results,Tryz.results46,go_sem]) rfl ⟨_,_,rfl,Below.x0,fun h=>absurd h (by decide),fun _=>⟨rfl,rfl⟩⟩
 ·by_cases hn1:n1=n+1
  ·by_cases hz:n=0
   ·subst hz
    have hF:netBackFault ls ss g=g.fault:=by unfold netBackFault;rw [if_neg (by omega),if_neg (by omega),if_pos hl0]
    unfold RefBackEnd
    rw [hF]
    obtain rfl:n1=1:=by omega
    clear hF hl0 hl1 hm0 hm1 h12 hn1
    by_cases hf:g.fault=0
    ·have HF:=Lib.hid hf
     clear hf
     go_enter Tryz.func46,Tryz.ntmps46
     go_wp2_with fail
     refine (refMatFault_any g _ _ (MatAt.mk (show IntsAt _ ag ng kg bg og g.cells from xg.k))).mono ?_
     rw [HF.out]
     rintro e w1 ⟨rfl,hb1⟩
     have B5:=((show Box _ w.heap.size [.int .i64 g.rows,.int .i64 g.cols,.slice ag ng kg] 41 from Box.x0)).keep hb1
     have B5c:=B5.cell
     have B5f:=B5.thawed
     have B5z:=B5.lt
     have B5k:=lt_add B5z
     have B6:=((show Box _ (w.heap.size+1) [.int .i64 0,.int .i64 0,.slice none 0 0] 41 from Box.x0)).keep hb1
     have B6c:=B6.cell
     have B6f:=B6.thawed
     have B6z:=B6.lt
     have B6k:=lt_add B6z
     have hbe:Below w.heap.size w w1:=(Below.x1 hb1)
     have x1:IntsAt w1 ag ng kg bg og g.cells:=xg.keep hbe
     have hlg:=xg.lt
     go_wp2
     exact bodyPost_ret (v:=.tuple #[.agg #[.int .i64 g.rows,.int .i64 g.cols,.slice ag ng kg],.slice none 0 0,.int .i64 0]) (run_of_box (b:=w.heap.size+1) (cs:=[.int .i64 g.rows,.int .i64 g.cols,.slice ag ng kg]) (t:=41) (by repeat (first|(with_reducible first|exact B6|refine Box.alloc ?_ _|refine Box.drewN ?_ _|refine Box.drew ?_|refine Box.set6z ?_ _ _ _ _ _ _|refine Box.set3z ?_ _ _ _|refine Box.fx ?_ _)|exact B6)) (fun Z=>by simp [results,Tryz.results46,go_sem,Z.cell])) rfl ⟨_,_,by rw [HF.out],(Below.y0 hbe),fun _=>⟨MatAt.mk (show IntsAt _ ag ng kg bg og g.cells from (by repeat (first|(with_reducible first|exact x1|refine IntsAt.alloc ?_ _|refine IntsAt.drewN ?_ _|refine IntsAt.drew ?_|(refine IntsAt.set ?_ ?_ _;rotate_left 1;(intro h0;have hq0:=hlg h0;first|(dsimp only;omega)|omega|(simp;omega)|simp)))|exact x1))),none,0,0,rfl,RowAt.nil _ _ _⟩,fun h=>absurd HF.out h⟩
    ·have HF:=Lib.hid hf
     have e9:(g.fault != 0)=true:=by simp [hf]
     clear hf
     go_enter Tryz.func46,Tryz.ntmps46
     go_wp2_with fail
     refine (refMatFault_any g _ _ (MatAt.mk (show IntsAt _ ag ng kg bg og g.cells from xg.k))).mono ?_
     rintro e w1 ⟨rfl,hb1⟩
     have B6:=((show Box _ (w.heap.size+1) [.int .i64 0,.int .i64 0,.slice none 0 0] 41 from Box.x0)).keep hb1
     have B6c:=B6.cell
     have B6f:=B6.thawed
     have B6z:=B6.lt
     have B6k:=lt_add B6z
     have hbe:Below w.heap.size w w1:=(Below.x1 hb1)
     go_wp2
     exact bodyPost_ret (v:=.tuple #[.agg #[.int .i64 0,.int .i64 0,.slice none 0 0],.slice none 0 0,.int .i64 g.fault]) (by simp [results,Tryz.results46,go_sem,B6c]) rfl ⟨_,_,rfl,(Below.y0 hbe),fun h=>absurd h HF.out,fun _=>⟨rfl,rfl⟩⟩
   ·obtain ⟨k,rfl⟩:∃ k,n=k+1:=⟨n - 1,by omega⟩
    have hF:netBackFault ls ss g=bF ls ss g (k+1) (k+1):=by
     unfold netBackFault
     rw [if_neg (by omega),if_neg (by omega),if_neg (by omega),hl0]
    refine (refNetBack_pos k ls ss g F G a0 a1 ag (k+1) n1 ng k0 k1 kg b0 b1 bg o0 o1 og w rfl (by omega) hn1 h0 h1 xg).mono ?_
    rintro e w' ⟨u,v,rfl,hb,h2,h3⟩
    refine ⟨u,v,by rw [hF],hb,fun h=>?_,fun h=>h3 (by rw [← hF];exact h)⟩
    obtain ⟨⟨a,m,c,b,o,rfl,_,x⟩,hown⟩:=h2 (by rw [← hF];exact h)
    obtain ⟨av,cv,b',hv,hb',hrow⟩:=hown.row (G:=anyB) (fun b h _=>trivial) (fun b h=>trivial)
    rw [bDs_length] at hv hrow
    exact ⟨MatAt.mk x,av,cv,b',hv,hrow⟩
  ·have hF:netBackFault ls ss g=2:=by unfold netBackFault;rw [if_neg (by omega),if_pos (by omega)]
   have e1:((n:Int) > 12)=False:=by simp;omega
   have e2:((n1:Int) != wrap64 ((n:Int)+1))=true:=by simp [wrap64];omega
   have e3:((n1:Int) != (n:Int)+1)=true:=by simp;omega
   unfold RefBackEnd
   rw [hF]
   clear hF
   go_enter Tryz.func46,Tryz.ntmps46
   go_wp2
   exact bodyPost_ret (v:=.tuple #[.agg #[.int .i64 0,.int .i64 0,.slice none 0 0],.slice none 0 0,.int .i64 2]) (by simp [results,Tryz.results46,go_sem]) rfl ⟨_,_,rfl,Below.x0,fun h=>absurd h (by decide),fun _=>⟨rfl,rfl⟩⟩
end Go.Proofs.YtchngeagnlngaaaGreatDoor
end
