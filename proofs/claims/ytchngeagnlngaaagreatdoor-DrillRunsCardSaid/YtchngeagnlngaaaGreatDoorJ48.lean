/- Texts joined: RLay5, RLay6. -/
import Derived.Test.YtchngeagnlngaaaGreatDoorJ47
import Derived.Deep.DeepCutAuto
import Derived.Test.YtchngeagnlngaaaGreatDoorJ06
import Derived.Test.YtchngeagnlngaaaGreatDoorJ18
import Derived.Test.YtchngeagnlngaaaGreatDoorJ08
set_option linter.unusedVariables false
set_option linter.unusedSimpArgs false
set_option linter.unusedSectionVars false
section
namespace Go.Proofs.YtchngeagnlngaaaGreatDoor
open Go.RowKit Gal
set_option maxRecDepth 100000
set_option maxHeartbeats 8000000
structure RBackCut (w:World) (l:Lay) (x g:Mat) (s15:Value) (wx:World):Prop where
 holds:∃ p a n k b o a' n' k' b' o' a2 n2 k2 b2 o2,s15=.pointer (some ⟨p,0,none⟩)∧w.heap.size+1+1+1+1+1<p ∧
  Box wx p [.int .i64 (l.back x g).rows,.int .i64 (l.back x g).cols,.slice a n k] 41 ∧
  Box wx (w.heap.size+1+1+1+1+1) [.int .i64 (l.grad x g).W.rows,.int .i64 (l.grad x g).W.cols,.slice a' n' k',.int .i64 (l.grad x g).B.rows,.int .i64 (l.grad x g).B.cols,.slice a2 n2 k2] 86 ∧
  Box wx (w.heap.size+1+1+1) [.int .i64 0,.int .i64 0,.slice none 0 0] 41 ∧
  Box wx (w.heap.size+1+1+1+1) [.int .i64 0,.int .i64 0,.slice none 0 0,.int .i64 0,.int .i64 0,.slice none 0 0] 86∧Below w.heap.size w wx ∧
  (0<n→w.heap.size+1+1+1+1+1<b)∧IntsAt wx a n k b o (l.back x g).cells∧(0<n'→w.heap.size+1+1+1+1+1<b')∧IntsAt wx a' n' k' b' o' (l.grad x g).W.cells∧(0<n2→w.heap.size+1+1+1+1+1<b2)∧IntsAt wx a2 n2 k2 b2 o2 (l.grad x g).B.cells
theorem refBackOf_3 (W B x g:Mat)
  (a a' a2 a3:Option Addr) (n n' n2 n3 k k' k2 k3 b b' b2 b3 o o' o2 o3:Nat) (w:World) (x0:IntsAt w a n k b o W.cells) (x1:IntsAt w a' n' k' b' o' B.cells) (x2:IntsAt w a2 n2 k2 b2 o2 x.cells) (x3:IntsAt w a3 n3 k3 b3 o3 g.cells)
  (hg:Backs ⟨3,W,B⟩ x g) :
  Calls Tryz.prog 77 #[.agg #[.int .i64 3,.int .i64 W.rows,.int .i64 W.cols,.slice a n k,.int .i64 B.rows,.int .i64 B.cols,.slice a' n' k'],.agg #[.int .i64 x.rows,.int .i64 x.cols,.slice a2 n2 k2],.agg #[.int .i64 g.rows,.int .i64 g.cols,.slice a3 n3 k3]] w fun e w'=>
   ∃ v d,e=.returned (.tuple #[v,d])∧MatNew w.heap.size w' v (Lay.back ⟨3,W,B⟩ x g)∧GrdNew w.heap.size w' d (Lay.grad ⟨3,W,B⟩ x g)∧Below w.heap.size w w'
 := by
 have hcol:g.cols=x.cols:=by rw [hg.cols];exact if_neg (by simp)
 obtain ⟨hgl,hx288⟩:=same_len hg.goes.mat hg.mat hg.rows hcol
 have hn2:=x2.len
 have hn3:=x3.len
 have hbk:Lay.back ⟨3,W,B⟩ x g=matTimes g (ix W.cells 0):=by simp [Lay.back,matTimes]
 have hgr:Lay.grad ⟨3,W,B⟩ x g=⟨⟨1,1,[dotTo x.cells g.cells n2]⟩,Mat.none⟩:=by simp [Lay.grad,hn2]
 have hnw:0<n:=by
  obtain ⟨_,_,fw,_,ft⟩:=Lay.fault_ok hg.goes.lay
  obtain ⟨R',K',e1,e2,_,_,h3,_⟩:=matFault_ok fw
  unfold Lay.fits at ft
  dsimp only at ft e1 e2 h3
  have h4:W.rows=1∧W.cols=1:=by omega
  obtain rfl:R'=1:=by omega
  obtain rfl:K'=1:=by omega
  rw [← x0.len,h3]
  omega
 have hnn:n3=n2:=by omega
 have hn288:n2≤288:=by omega
 have HF:=Lib.hid hg.mat
 have HBK:=Lib.hid hbk
 have HGR:=Lib.hid hgr
 clear hbk hgr hcol hgl hx288 hn2 hn3 hg
 subst hnn
 have l0:0<n→b<w.heap.size:=x0.lt
 have l3:0<n3→b3<w.heap.size:=x3.lt
 obtain rfl:=x0.ptr hnw
 go_enter Tryz.func77,Tryz.ntmps77
 go_wp2
 go_loopw [12,13] (fun s i wr=>∃ t:Nat,t≤n3∧i=.int .i64 t∧s=.int .i64 (dotTo x.cells g.cells t)∧Below w.heap.size w wr ∧
   Box wr w.heap.size [.int .i64 3,.int .i64 W.rows,.int .i64 W.cols,.slice (some ⟨b,o,none⟩) n k,.int .i64 B.rows,.int .i64 B.cols,.slice a' n' k'] 84 ∧
   Box wr (w.heap.size+1) [.int .i64 x.rows,.int .i64 x.cols,.slice a2 n3 k2] 41∧Box wr (w.heap.size+1+1) [.int .i64 g.rows,.int .i64 g.cols,.slice a3 n3 k3] 41 ∧
   Box wr (w.heap.size+1+1+1) [.int .i64 0,.int .i64 0,.slice none 0 0] 41∧Box wr (w.heap.size+1+1+1+1) [.int .i64 0,.int .i64 0,.slice none 0 0,.int .i64 0,.int .i64 0,.slice none 0 0] 86 ∧
   Box wr (w.heap.size+1+1+1+1+1) [.int .i64 0,.int .i64 0,.slice none 0 0,.int .i64 0,.int .i64 0,.slice none 0 0] 86) (fun _ i _=>n3 - (intOf i).toNat)
 case atStart=>exact ⟨0,Nat.zero_le _,rfl,rfl,Below.x0,Box.x0,Box.x0,Box.x0,Box.x0,Box.x0,Box.x0⟩
 case round=>
  obtain ⟨t,hk,rfl,rfl,hbr,B0,B1,B2,B3,B4,B5⟩:=hrel
  have B0c:=B0.cell
  have B1c:=B1.cell
  have B2c:=B2.cell
  have B5c:=B5.cell
  have B5f:=B5.thawed
  have hz:=B5.lt
  have hzk:=lt_add hz
  by_cases hlt:t<n3
  ·obtain rfl:=x2.ptr (by omega)
   obtain rfl:=x3.ptr (by omega)
   have ca:=(x2.keep hbr).cell _ hlt
   have cb:=(x3.keep hbr).cell _ hlt
   go_wp2_with fail
   go_quiet ((go_at_call 75;first|exact quiet0 (rmul_any _ _)|exact quiet1 (rmul_any _ _)))
   go_wp2_with fail
   refine (radd_any _ _ _).mono ?_
   rintro e w' ⟨rfl,rfl⟩
   go_wp2
   go_roundw
   case rel=>exact ⟨t+1,by omega,by go_num,rfl,(Below.y0 hbr),B0.drewN _,B1.drewN _,B2.drewN _,B3.drewN _,B4.drewN _,B5.drewN _⟩
   case measure=>simp [intOf];omega
  ·obtain rfl:t=n3:=by omega
   go_upto_region 18 with fail
   have x0r:=x0.keep hbr
   have x3r:=x3.keep hbr
   have hzr:w.heap.size+1+1+1+1+1<wr.heap.size:=B5.lt
   obtain ⟨wq,hq,Q0,Q2,Q3,Q4,Q5,QS,q0,q3,qb,qz⟩:∃ wq,(((wr.setCell ⟨w.heap.size+1+1+1+1+1,0,none⟩ (.int .i64 1)).setCell ⟨w.heap.size+1+1+1+1+1,1,none⟩ (.int .i64 1)).setCell ⟨w.heap.size+1+1+1+1+1,2,none⟩ (.slice (some ⟨wr.heap.size,0,none⟩) 1 1)).alloc (.cells #[.int .i64 (dotTo x.cells g.cells t)] 3)=wq ∧
     Box wq w.heap.size [.int .i64 3,.int .i64 W.rows,.int .i64 W.cols,.slice (some ⟨b,o,none⟩) n k,.int .i64 B.rows,.int .i64 B.cols,.slice a' n' k'] 84 ∧
     Box wq (w.heap.size+1+1) [.int .i64 g.rows,.int .i64 g.cols,.slice a3 t k3] 41 ∧
     Box wq (w.heap.size+1+1+1) [.int .i64 0,.int .i64 0,.slice none 0 0] 41 ∧
     Box wq (w.heap.size+1+1+1+1) [.int .i64 0,.int .i64 0,.slice none 0 0,.int .i64 0,.int .i64 0,.slice none 0 0] 86 ∧
     Box wq (w.heap.size+1+1+1+1+1) [.int .i64 1,.int .i64 1,.slice (some ⟨wr.heap.size,0,none⟩) 1 1,.int .i64 0,.int .i64 0,.slice none 0 0] 86 ∧
     IntsAt wq (some ⟨wr.heap.size,0,none⟩) 1 1 wr.heap.size 0 [dotTo x.cells g.cells t]∧IntsAt wq (some ⟨b,o,none⟩) n k b o W.cells∧IntsAt wq a3 t k3 b3 o3 g.cells∧Below w.heap.size w wq∧wr.heap.size<wq.heap.size:=
    ⟨_,rfl,B0.k,B2.k,B3.k,B4.k,(((B5.set 0 _).set 1 _).set 2 _).alloc _,ints_box (xs:=[dotTo x.cells g.cells t]) (Box.new' _ wr.heap.size _ _ (by simp [World.setCell])) (by unfold maxLen;simp),(by repeat (first|(with_reducible first|exact x0r|refine IntsAt.alloc ?_ _|refine IntsAt.drewN ?_ _|refine IntsAt.drew ?_|(refine IntsAt.set ?_ ?_ _;rotate_left 1;(intro h0;have hq0:=l0 h0;first|(dsimp only;omega)|omega|(simp;omega)|simp)))|exact x0r)),(by repeat (first|(with_reducible first|exact x3r|refine IntsAt.alloc ?_ _|refine IntsAt.drewN ?_ _|refine IntsAt.drew ?_|(refine IntsAt.set ?_ ?_ _;rotate_left 1;(intro h0;have hq0:=l3 h0;first|(dsimp only;omega)|omega|(simp;omega)|simp)))|exact x3r)),(Below.y0 hbr),by simp [World.setCell]⟩
   rw [hq]
   clear hq B0 B1 B2 B3 B4 B5 B0c B1c B2c B5c B5f hz hzk x0r x3r
   go_cut [15] (fun s15 wx=>RBackCut w ⟨3,W,B⟩ x g s15 wx)
   case first=>
    go_region_held3 (fun w'=>w'.cell? ⟨w.heap.size+1+1,0,none⟩=some (.int .i64 g.rows)∧w'.cell? ⟨w.heap.size+1+1,1,none⟩=some (.int .i64 g.cols)∧w'.cell? ⟨w.heap.size+1+1,2,none⟩=some (.slice a3 t k3)∧w'.cell? ⟨w.heap.size,3,none⟩=some (.slice (some ⟨b,o,none⟩) n k)∧w'.cell? ⟨b,o,none⟩=some (.int .i64 (ix W.cells 0)))
     (first|exact cells371 (t:=41) (u:=84) (v0:=.int .i64 3) (v1:=.int .i64 W.rows) (v2:=.int .i64 W.cols) (v4:=.int .i64 B.rows) (v5:=.int .i64 B.cols) (v6:=.slice a' n' k') (by first|exact Q2.k1 hb1|exact Q2.k) (by first|exact Q0.k1 hb1|exact Q0.k) (IntsAt.c0 (a:=some ⟨b,o,none⟩) (cap:=k) (by repeat (first|(with_reducible first|exact q0|refine IntsAt.alloc ?_ _|refine IntsAt.drewN ?_ _|refine IntsAt.drew ?_|(refine IntsAt.set ?_ ?_ _;rotate_left 1;(intro h0;have hq0:=l0 h0;first|(dsimp only;omega)|omega|(simp;omega)|simp))|refine IntsAt.keep ?_ hb1)|exact q0)) hnw)|trivial)
     ((go_at_call 78;go_must (refine (refMatTimes_all g (ix W.cells 0) _ _ (MatAt.mk (show IntsAt _ a3 t k3 b3 o3 g.cells from q3.k)) HF.out).mono ?_);go_must (rw [← HBK.out]);go_must (rintro e w1 ⟨v5,rfl,⟨a5,n5,k5,b5,o5,rfl,hn5,x5⟩,hb1⟩);(try (refine (fun (P1:Box w1 (wq.heap.size) [.int .i64 0,.int .i64 0,.slice none 0 0] 41)=>?_) ?_;rotate_left 1;(with_reducible refine Box.keep ?_ hb1);(focus ((repeat (first|(with_reducible refine (Box.new' _ (wq.heap.size) _ _ ?_);(simp;done))|(with_reducible refine Box.alloc ?_ _)|(with_reducible refine Box.drew ?_)|(with_reducible refine Box.drewN ?_ _)));done));have P1c:=P1.cell;have P1f:=P1.thawed;have P1z:=P1.lt));(have hs1:=hb1.size;simp at hs1;have hz1:wr.heap.size<w1.heap.size:=by omega)))
    all_goals (
     go_wp2_with fail
     go_meet
     simp at hn5
     have HG:Lay.grad ⟨3,W,B⟩ x g=⟨⟨1,1,[dotTo x.cells g.cells t]⟩,Mat.none⟩:=HGR.out
     refine ⟨⟨_,a5,n5,k5,b5,o5,some ⟨wr.heap.size,0,none⟩,1,1,wr.heap.size,0,none,0,0,0,0,rfl,?_,(by repeat (first|(with_reducible first|(refine (Box.new' _ _ _ _ ?_);(simp;done))|refine Box.alloc ?_ _|refine Box.drewN ?_ _|refine Box.drew ?_|refine Box.set6z ?_ _ _ _ _ _ _|refine Box.set3z ?_ _ _ _|refine Box.fx ?_ _|refine Box.keep ?_ hb1))),?_,(by repeat (first|(with_reducible first|exact Q3|refine Box.alloc ?_ _|refine Box.drewN ?_ _|refine Box.drew ?_|refine Box.set6z ?_ _ _ _ _ _ _|refine Box.set3z ?_ _ _ _|refine Box.fx ?_ _|refine Box.keep ?_ hb1)|exact Q3)),(by repeat (first|(with_reducible first|exact Q4|refine Box.alloc ?_ _|refine Box.drewN ?_ _|refine Box.drew ?_|refine Box.set6z ?_ _ _ _ _ _ _|refine Box.set3z ?_ _ _ _|refine Box.fx ?_ _|refine Box.keep ?_ hb1)|exact Q4)),(Below.y1 hb1 qb),fun h=>by have:=hn5 h;omega,?_,fun _=>hzr,?_,fun h=>absurd h (Nat.lt_irrefl _),?_⟩⟩
     ·omega
     ·rw [HG];exact (by repeat (first|(with_reducible first|exact Q5|refine Box.alloc ?_ _|refine Box.drewN ?_ _|refine Box.drew ?_|refine Box.set6z ?_ _ _ _ _ _ _|refine Box.set3z ?_ _ _ _|refine Box.fx ?_ _|refine Box.keep ?_ hb1)|exact Q5))
     ·exact (by repeat (first|(with_reducible first|exact x5|refine IntsAt.alloc ?_ _|refine IntsAt.drewN ?_ _|refine IntsAt.drew ?_|(refine IntsAt.set ?_ ?_ _;rotate_left 1;(intro h0;have hq0:=hn5 h0;first|(dsimp only;omega)|omega|(simp;omega)|simp)))|exact x5))
     ·rw [HG];exact (by first|exact QS.k1 hb1|exact QS.k)
     ·rw [HG];exact noInts _)
   case rest=>
    obtain ⟨⟨p,c5,m5,p5,q5,r5,c6,m6,p6,q6,r6,c7,m7,p7,q7,r7,rfl,hp,Bp,Bq,C3,C4,hbw,e5,y5,e6,y6,e7,y7⟩⟩:=hcut
    have C3c:=C3.cell
    have C3f:=C3.thawed
    have C4c:=C4.cell
    have C4f:=C4.thawed
    have hz:=C4.lt
    go_wp2_with fail
    go_region_held3 (fun w'=>w'.cell? ⟨p,0,none⟩=some (.int .i64 (Lay.back ⟨3,W,B⟩ x g).rows)∧w'.cell? ⟨p,1,none⟩=some (.int .i64 (Lay.back ⟨3,W,B⟩ x g).cols)∧w'.cell? ⟨p,2,none⟩=some (.slice c5 m5 p5)∧w'.cell? ⟨w.heap.size+1+1+1+1+1,0,none⟩=some (.int .i64 (Lay.grad ⟨3,W,B⟩ x g).W.rows)∧w'.cell? ⟨w.heap.size+1+1+1+1+1,1,none⟩=some (.int .i64 (Lay.grad ⟨3,W,B⟩ x g).W.cols)∧w'.cell? ⟨w.heap.size+1+1+1+1+1,2,none⟩=some (.slice c6 m6 p6)∧w'.cell? ⟨w.heap.size+1+1+1+1+1,3,none⟩=some (.int .i64 (Lay.grad ⟨3,W,B⟩ x g).B.rows)∧w'.cell? ⟨w.heap.size+1+1+1+1+1,4,none⟩=some (.int .i64 (Lay.grad ⟨3,W,B⟩ x g).B.cols)∧w'.cell? ⟨w.heap.size+1+1+1+1+1,5,none⟩=some (.slice c7 m7 p7)) (exact cells36 (t:=41) (u:=86) Bp.k Bq.k) (fail)
    all_goals (
     go_wp2
     refine bodyPost_ret (v:=.tuple #[.agg #[.int .i64 (Lay.back ⟨3,W,B⟩ x g).rows,.int .i64 (Lay.back ⟨3,W,B⟩ x g).cols,.slice c5 m5 p5],.agg #[.int .i64 (Lay.grad ⟨3,W,B⟩ x g).W.rows,.int .i64 (Lay.grad ⟨3,W,B⟩ x g).W.cols,.slice c6 m6 p6,.int .i64 (Lay.grad ⟨3,W,B⟩ x g).B.rows,.int .i64 (Lay.grad ⟨3,W,B⟩ x g).B.cols,.slice c7 m7 p7]]) ?_ rfl ⟨_,_,rfl,?_,?_,?_⟩
     ·simp [results,Tryz.results77,go_sem,C3c,C4c,hz]
     ·exact MatNew.mk (b:=q5) (off:=r5) (fun h=>by have:=e5 h;omega) (by repeat (first|(with_reducible first|exact y5|refine IntsAt.alloc ?_ _|refine IntsAt.drewN ?_ _|refine IntsAt.drew ?_|(refine IntsAt.set ?_ ?_ _;rotate_left 1;(intro h0;have hq0:=e5 h0;first|(dsimp only;omega)|omega|(simp;omega)|simp)))|exact y5))
     ·exact ⟨c6,m6,p6,q6,r6,c7,m7,p7,q7,r7,rfl,fun h=>by have:=e6 h;omega,(by repeat (first|(with_reducible first|exact y6|refine IntsAt.alloc ?_ _|refine IntsAt.drewN ?_ _|refine IntsAt.drew ?_|(refine IntsAt.set ?_ ?_ _;rotate_left 1;(intro h0;have hq0:=e6 h0;first|(dsimp only;omega)|omega|(simp;omega)|simp)))|exact y6)),fun h=>by have:=e7 h;omega,(by repeat (first|(with_reducible first|exact y7|refine IntsAt.alloc ?_ _|refine IntsAt.drewN ?_ _|refine IntsAt.drew ?_|(refine IntsAt.set ?_ ?_ _;rotate_left 1;(intro h0;have hq0:=e7 h0;first|(dsimp only;omega)|omega|(simp;omega)|simp)))|exact y7))⟩
     ·exact (Below.y0 hbw))
end Go.Proofs.YtchngeagnlngaaaGreatDoor
end
section
namespace Gal
theorem pad_skip {g:Nat→Int} {n k:Nat} (hg:g k=0):pad g n k=pad g n (k+1):=by
 refine eq_of_ix (by rw [pad_length,pad_length]) fun j hj=>?_
 rw [pad_length] at hj
 rw [pad_ix hj,pad_ix hj]
 by_cases h:j<k
 ·rw [if_pos h,if_pos (by omega)]
 ·rw [if_neg h]
  by_cases h2:j=k
  ·subst h2;rw [if_pos (by omega),hg]
  ·rw [if_neg (by omega)]
end Gal
namespace Go.Proofs.YtchngeagnlngaaaGreatDoor
open Go.RowKit Gal
set_option maxRecDepth 100000
set_option maxHeartbeats 8000000
theorem refBackOf_2 (W B x g:Mat)
  (a a' a2 a3:Option Addr) (n n' n2 n3 k k' k2 k3 b b' b2 b3 o o' o2 o3:Nat) (w:World) (x0:IntsAt w a n k b o W.cells) (x1:IntsAt w a' n' k' b' o' B.cells) (x2:IntsAt w a2 n2 k2 b2 o2 x.cells) (x3:IntsAt w a3 n3 k3 b3 o3 g.cells)
  (hg:Backs ⟨2,W,B⟩ x g) :
  Calls Tryz.prog 77 #[.agg #[.int .i64 2,.int .i64 W.rows,.int .i64 W.cols,.slice a n k,.int .i64 B.rows,.int .i64 B.cols,.slice a' n' k'],.agg #[.int .i64 x.rows,.int .i64 x.cols,.slice a2 n2 k2],.agg #[.int .i64 g.rows,.int .i64 g.cols,.slice a3 n3 k3]] w fun e w'=>
   ∃ v d,e=.returned (.tuple #[v,d])∧MatNew w.heap.size w' v (Lay.back ⟨2,W,B⟩ x g)∧GrdNew w.heap.size w' d (Lay.grad ⟨2,W,B⟩ x g)∧Below w.heap.size w w'
 := by
 have hcol:g.cols=x.cols:=by rw [hg.cols];exact if_neg (by simp)
 have hrow:=hg.rows
 have HGM:=Lib.hid hg.mat
 obtain ⟨R,K,xs,rfl,hR,hK,hla,_⟩:=fault_form' hg.goes.mat
 obtain ⟨R',K',ys,rfl,_,_,hlb,_⟩:=fault_form' hg.mat
 dsimp only at x2 x3 hcol hrow
 obtain rfl:R'=R:=by omega
 obtain rfl:K'=K:=by omega
 obtain rfl:R'*K'=n2:=by rw [← hla];exact x2.len
 obtain rfl:R'*K'=n3:=by rw [← hlb];exact x3.len
 have hrk:R'*K'≤288:=Nat.mul_le_mul hR hK
 have hbk:Lay.back ⟨2,W,B⟩ ⟨R',K',xs⟩ ⟨R',K',ys⟩=⟨R',K',upto (fun t=>if 0<ix xs t then ix ys t else 0) (R'*K')⟩:=by simp [Lay.back,hla]
 have hgr:Lay.grad ⟨2,W,B⟩ ⟨R',K',xs⟩ ⟨R',K',ys⟩=Grd.none:=by simp [Lay.grad]
 rw [hbk,hgr]
 clear hbk hgr hg hla hlb hrow hcol
 have k2':0<R'*K'→b2<w.heap.size:=x2.lt
 have k3':0<R'*K'→b3<w.heap.size:=x3.lt
 go_enter Tryz.func77,Tryz.ntmps77
 go_wp2_with fail
 refine (blank_any R' K' (by omega) (by omega) _).mono ?_
 rintro e w1 ⟨bd,rfl,hbb,hB,hb1⟩
 have B0:=((show Box _ w.heap.size [.int .i64 2,.int .i64 W.rows,.int .i64 W.cols,.slice a n k,.int .i64 B.rows,.int .i64 B.cols,.slice a' n' k'] 84 from Box.x0)).keep hb1
 have B0c:=B0.cell
 have B0f:=B0.thawed
 have B0z:=B0.lt
 have B0k:=lt_add B0z
 have B1:=((show Box _ (w.heap.size+1) [.int .i64 R',.int .i64 K',.slice a2 (R'*K') k2] 41 from Box.x0)).keep hb1
 have B1c:=B1.cell
 have B1f:=B1.thawed
 have B1z:=B1.lt
 have B1k:=lt_add B1z
 have B2:=((show Box _ (w.heap.size+1+1) [.int .i64 R',.int .i64 K',.slice a3 (R'*K') k3] 41 from Box.x0)).keep hb1
 have B2c:=B2.cell
 have B2f:=B2.thawed
 have B2z:=B2.lt
 have B2k:=lt_add B2z
 have B3:=((show Box _ (w.heap.size+1+1+1) [.int .i64 0,.int .i64 0,.slice none 0 0] 41 from Box.x0)).keep hb1
 have B3c:=B3.cell
 have B3f:=B3.thawed
 have B3z:=B3.lt
 have B3k:=lt_add B3z
 have B4:=((show Box _ (w.heap.size+1+1+1+1) [.int .i64 0,.int .i64 0,.slice none 0 0,.int .i64 0,.int .i64 0,.slice none 0 0] 86 from Box.x0)).keep hb1
 have B4c:=B4.cell
 have B4f:=B4.thawed
 have B4z:=B4.lt
 have B4k:=lt_add B4z
 have B5:=((show Box _ (w.heap.size+1+1+1+1+1) [.int .i64 0,.int .i64 0,.slice none 0 0,.int .i64 0,.int .i64 0,.slice none 0 0] 86 from Box.x0)).keep hb1
 have B5c:=B5.cell
 have B5f:=B5.thawed
 have B5z:=B5.lt
 have B5k:=lt_add B5z
 have hwl:Below w.heap.size w w1:=(Below.x1 hb1)
 have hzb:bd<w1.heap.size:=hB.lt
 have hz1:=hb1.size
 simp at hz1 hbb
 have l2:0<R'*K'→b2<bd:=fun h=>by have:=k2' h;omega
 have l3:0<R'*K'→b3<bd:=fun h=>by have:=k3' h;omega
 have hkw1:Below w.heap.size w w1:=(Below.x1 hb1)
 replace x2:=x2.keep hkw1
 replace x3:=x3.keep hkw1
 have hsw1:=hkw1.size
 go_wp2
 go_loopw [17] (fun i wr=>∃ t:Nat,t≤R'*K'∧i=.int .i64 t∧Far (·=bd) w1 wr∧Box wr (w1).heap.size [.int .i64 R',.int .i64 K',.slice (some ⟨bd,0,none⟩) (R'*K') (R'*K')] 41 ∧
   Box wr bd ((pad (fun t=>if 0<ix xs t then ix ys t else 0) (R'*K') t).map (Value.int .i64)) 3) (fun i _=>R'*K' - (intOf i).toNat)
 case atStart=>exact ⟨0,Nat.zero_le _,rfl,(Far.refl _ _).al _,Box.new _ _ _,by rw [pad_zero];exact hB.alloc _⟩
 case round=>
  obtain ⟨t,hk,rfl,hfr,Bm,Bc⟩:=hrel
  have Bmc:=Bm.cell
  have Bmf:=Bm.thawed
  have Bmz:=Bm.lt
  replace B0:=B0.farS hfr (by omega)
  have B0c:=B0.cell
  have B0f:=B0.thawed
  have B0z:=B0.lt
  have B0k:=lt_add B0z
  replace B1:=B1.farS hfr (by omega)
  have B1c:=B1.cell
  have B1f:=B1.thawed
  have B1z:=B1.lt
  have B1k:=lt_add B1z
  replace B2:=B2.farS hfr (by omega)
  have B2c:=B2.cell
  have B2f:=B2.thawed
  have B2z:=B2.lt
  have B2k:=lt_add B2z
  replace B3:=B3.farS hfr (by omega)
  have B3c:=B3.cell
  have B3f:=B3.thawed
  have B3z:=B3.lt
  have B3k:=lt_add B3z
  replace B4:=B4.farS hfr (by omega)
  have B4c:=B4.cell
  have B4f:=B4.thawed
  have B4z:=B4.lt
  have B4k:=lt_add B4z
  replace B5:=B5.farS hfr (by omega)
  have B5c:=B5.cell
  have B5f:=B5.thawed
  have B5z:=B5.lt
  have B5k:=lt_add B5z
  replace x2:=x2.farS hfr (by intro hn e;have:=l2 hn;omega)
  replace x3:=x3.farS hfr (by intro hn e;have:=l3 hn;omega)
  by_cases hlt:t<R'*K'
  ·obtain rfl:=x2.ptr (by omega)
   obtain rfl:=x3.ptr (by omega)
   have c0:=x2.cell t hlt
   have c1:=x3.cell t hlt
   have cc:=Bc.icell (k:=t) (by rw [pad_length];exact hlt)
   rw [pad_ix hlt,if_neg (Nat.lt_irrefl _)] at cc
   have hltI:(t:Int)<(R':Int)*K':=by rw [← Int.natCast_mul];omega
   have cf:=Bc.thawed t
   by_cases hpos:0<ix xs t
   ·have HP:=Lib.hid hpos
    go_wp2_with fail
    refine wp_region_still_tail 9 (by kernel_rfl) (by kernel_rfl) ?_
    simp only [List.take_succ_cons,List.take_zero,List.drop_succ_cons,List.drop_zero]
    repeat (first|fail|still_step)
    refine wpStill_nil ?_
    go_wp2
    go_roundw
    case rel=>
     refine ⟨t+1,by omega,by go_num,(hfr.drN _).st (fun _=>rfl) _,Bm.k,?_⟩
     have hs:=Bc.iset t (if 0<ix xs t then ix ys t else 0)
     rw [pad_set (g:=fun t=>if 0<ix xs t then ix ys t else 0) hlt,if_pos HP.out] at hs
     exact hs
    case measure=>simp [intOf];omega
   ·have HP:=Lib.hid hpos
    go_wp2
    go_roundw
    case rel=>
     refine ⟨t+1,by omega,by go_num,hfr,Bm,?_⟩
     rw [← pad_skip (g:=fun t=>if 0<ix xs t then ix ys t else 0) (if_neg HP.out)]
     exact Bc
    case measure=>simp [intOf];omega
  ·skip
   obtain rfl:t=R'*K':=by omega
   have hbl:=Far.toBelow hwl hfr (by omega) (by rintro t rfl;omega)
   have ip:=ints_pad Bc (by unfold maxLen;omega)
   have lb:0<R'*K'→w.heap.size+1+1+1+1+1<bd:=fun _=>by omega
   go_wp2_with fail
   go_region_held3 (fun w'=>w'.cell? ⟨w1.heap.size,0,none⟩=some (.int .i64 R')∧w'.cell? ⟨w1.heap.size,1,none⟩=some (.int .i64 K')∧w'.cell? ⟨w1.heap.size,2,none⟩=some (.slice (some ⟨bd,0,none⟩) (R'*K') (R'*K'))∧w'.cell? ⟨w.heap.size+1+1+1+1+1,0,none⟩=some (.int .i64 0)∧w'.cell? ⟨w.heap.size+1+1+1+1+1,1,none⟩=some (.int .i64 0)∧w'.cell? ⟨w.heap.size+1+1+1+1+1,2,none⟩=some (.slice none 0 0)∧w'.cell? ⟨w.heap.size+1+1+1+1+1,3,none⟩=some (.int .i64 0)∧w'.cell? ⟨w.heap.size+1+1+1+1+1,4,none⟩=some (.int .i64 0)∧w'.cell? ⟨w.heap.size+1+1+1+1+1,5,none⟩=some (.slice none 0 0)) (exact cells36 (t:=41) (u:=86) Bm.k B5.k) (fail)
   all_goals (
    go_wp2
    refine bodyPost_ret (v:=.tuple #[.agg #[.int .i64 R',.int .i64 K',.slice (some ⟨bd,0,none⟩) (R'*K') (R'*K')],.agg #[.int .i64 0,.int .i64 0,.slice none 0 0,.int .i64 0,.int .i64 0,.slice none 0 0]]) ?_ rfl ⟨_,_,rfl,?_,?_,?_⟩
    ·simp [results,Tryz.results77,go_sem,B3c,B4c,B3z,B4z]
    ·exact MatNew.mk (b:=bd) (off:=0) (fun _=>by omega) (by repeat (first|(with_reducible first|exact ip|refine IntsAt.alloc ?_ _|refine IntsAt.drewN ?_ _|refine IntsAt.drew ?_|(refine IntsAt.set ?_ ?_ _;rotate_left 1;(intro h0;have hq0:=lb h0;first|(dsimp only;omega)|omega|(simp;omega)|simp)))|exact ip))
    ·exact noGrd _ _
    ·exact (Below.y0 hbl))
theorem refBackOf_4 (W B x g:Mat)
  (a a' a2 a3:Option Addr) (n n' n2 n3 k k' k2 k3 b b' b2 b3 o o' o2 o3:Nat) (w:World) (x0:IntsAt w a n k b o W.cells) (x1:IntsAt w a' n' k' b' o' B.cells) (x2:IntsAt w a2 n2 k2 b2 o2 x.cells) (x3:IntsAt w a3 n3 k3 b3 o3 g.cells)
  (hg:Backs ⟨4,W,B⟩ x g) :
  Calls Tryz.prog 77 #[.agg #[.int .i64 4,.int .i64 W.rows,.int .i64 W.cols,.slice a n k,.int .i64 B.rows,.int .i64 B.cols,.slice a' n' k'],.agg #[.int .i64 x.rows,.int .i64 x.cols,.slice a2 n2 k2],.agg #[.int .i64 g.rows,.int .i64 g.cols,.slice a3 n3 k3]] w fun e w'=>
   ∃ v d,e=.returned (.tuple #[v,d])∧MatNew w.heap.size w' v (Lay.back ⟨4,W,B⟩ x g)∧GrdNew w.heap.size w' d (Lay.grad ⟨4,W,B⟩ x g)∧Below w.heap.size w w'
 := by
 have hcol:g.cols=x.cols:=by rw [hg.cols];exact if_neg (by simp)
 have hrow:=hg.rows
 have HGM:=Lib.hid hg.mat
 obtain ⟨R,K,xs,rfl,hR,hK,hla,_⟩:=fault_form' hg.goes.mat
 obtain ⟨R',K',ys,rfl,_,_,hlb,_⟩:=fault_form' hg.mat
 dsimp only at x2 x3 hcol hrow
 obtain rfl:R'=R:=by omega
 obtain rfl:K'=K:=by omega
 obtain rfl:R'*K'=n2:=by rw [← hla];exact x2.len
 obtain rfl:R'*K'=n3:=by rw [← hlb];exact x3.len
 have hrk:R'*K'≤288:=Nat.mul_le_mul hR hK
 have hbk:Lay.back ⟨4,W,B⟩ ⟨R',K',xs⟩ ⟨R',K',ys⟩=⟨R',K',upto (fun t=>ix ys t) (R'*K')⟩:=by simp [Lay.back,hlb]
 have hgr:Lay.grad ⟨4,W,B⟩ ⟨R',K',xs⟩ ⟨R',K',ys⟩=⟨Mat.none,matSums ⟨R',K',ys⟩⟩:=by simp [Lay.grad]
 rw [hbk,hgr]
 clear hbk hgr hg hla hlb hrow hcol
 have k2':0<R'*K'→b2<w.heap.size:=x2.lt
 have k3':0<R'*K'→b3<w.heap.size:=x3.lt
 go_enter Tryz.func77,Tryz.ntmps77
 go_wp2_with fail
 refine (refMatSums_all ⟨R',K',ys⟩ _ _ (MatAt.mk (x3.alloc _ |>.alloc _ |>.alloc _ |>.alloc _ |>.alloc _ |>.alloc _)) HGM.out).mono ?_
 rintro e w1 ⟨v4,rfl,⟨c4,m4,p4,q4,r4,rfl,hn4,y4⟩,hb1⟩
 have B0:=((show Box _ w.heap.size [.int .i64 4,.int .i64 W.rows,.int .i64 W.cols,.slice a n k,.int .i64 B.rows,.int .i64 B.cols,.slice a' n' k'] 84 from Box.x0)).keep hb1
 have B0c:=B0.cell
 have B0f:=B0.thawed
 have B0z:=B0.lt
 have B0k:=lt_add B0z
 have B1:=((show Box _ (w.heap.size+1) [.int .i64 R',.int .i64 K',.slice a2 (R'*K') k2] 41 from Box.x0)).keep hb1
 have B1c:=B1.cell
 have B1f:=B1.thawed
 have B1z:=B1.lt
 have B1k:=lt_add B1z
 have B2:=((show Box _ (w.heap.size+1+1) [.int .i64 R',.int .i64 K',.slice a3 (R'*K') k3] 41 from Box.x0)).keep hb1
 have B2c:=B2.cell
 have B2f:=B2.thawed
 have B2z:=B2.lt
 have B2k:=lt_add B2z
 have B3:=((show Box _ (w.heap.size+1+1+1) [.int .i64 0,.int .i64 0,.slice none 0 0] 41 from Box.x0)).keep hb1
 have B3c:=B3.cell
 have B3f:=B3.thawed
 have B3z:=B3.lt
 have B3k:=lt_add B3z
 have B4:=((show Box _ (w.heap.size+1+1+1+1) [.int .i64 0,.int .i64 0,.slice none 0 0,.int .i64 0,.int .i64 0,.slice none 0 0] 86 from Box.x0)).keep hb1
 have B4c:=B4.cell
 have B4f:=B4.thawed
 have B4z:=B4.lt
 have B4k:=lt_add B4z
 have B5:=((show Box _ (w.heap.size+1+1+1+1+1) [.int .i64 0,.int .i64 0,.slice none 0 0,.int .i64 0,.int .i64 0,.slice none 0 0] 86 from Box.x0)).keep hb1
 have B5c:=B5.cell
 have B5f:=B5.thawed
 have B5z:=B5.lt
 have B5k:=lt_add B5z
 have hkw1:Below w.heap.size w w1:=(Below.x1 hb1)
 replace x2:=x2.keep hkw1
 replace x3:=x3.keep hkw1
 have hsw1:=hkw1.size
 have hs4:w.heap.size+1+1+1+1+1<w1.heap.size:=B5z
 have e4:0<m4→w.heap.size+1+1+1+1+1<q4:=fun h=>by have:=hn4 h;simp at this;omega
 have y4':=y4
 go_wp2_with fail
 refine (blank_any R' K' (by omega) (by omega) _).mono ?_
 rintro e w2 ⟨bd,rfl,hbb,hB,hb2⟩
 have E5:Box w2 (w.heap.size+1+1+1+1+1) [.int .i64 0,.int .i64 0,.slice none 0 0,.int .i64 (matSums ⟨R',K',ys⟩).rows,.int .i64 (matSums ⟨R',K',ys⟩).cols,.slice c4 m4 p4] 86:=(((B5.set 3 _).set 4 _).set 5 _).keep hb2
 have hfr:Far (·=w.heap.size+1+1+1+1+1) w1 w2:=((((Far.refl (·=w.heap.size+1+1+1+1+1) w1).st (a:=⟨w.heap.size+1+1+1+1+1,3,none⟩) (fun _=>rfl) _).st (a:=⟨w.heap.size+1+1+1+1+1,4,none⟩) (fun _=>rfl) _).st (a:=⟨w.heap.size+1+1+1+1+1,5,none⟩) (fun _=>rfl) _).go hb2
 clear B5 B5c B5f B5z B5k
 replace B0:=B0.farS hfr (by omega)
 have B0c:=B0.cell
 have B0f:=B0.thawed
 have B0z:=B0.lt
 have B0k:=lt_add B0z
 replace B1:=B1.farS hfr (by omega)
 have B1c:=B1.cell
 have B1f:=B1.thawed
 have B1z:=B1.lt
 have B1k:=lt_add B1z
 replace B2:=B2.farS hfr (by omega)
 have B2c:=B2.cell
 have B2f:=B2.thawed
 have B2z:=B2.lt
 have B2k:=lt_add B2z
 replace B3:=B3.farS hfr (by omega)
 have B3c:=B3.cell
 have B3f:=B3.thawed
 have B3z:=B3.lt
 have B3k:=lt_add B3z
 replace B4:=B4.farS hfr (by omega)
 have B4c:=B4.cell
 have B4f:=B4.thawed
 have B4z:=B4.lt
 have B4k:=lt_add B4z
 replace x2:=x2.farS hfr (by intro h e;have:=k2' h;omega)
 replace x3:=x3.farS hfr (by intro h e;have:=k3' h;omega)
 replace y4:=y4.farS hfr (by intro h e;have:=e4 h;omega)
 have hs5:=hfr.size
 clear hfr
 have hwl:Below w.heap.size w w2:=(Below.x2 hb2 hb1)
 have hzb:bd<w2.heap.size:=hB.lt
 have hz1:=hb2.size
 try simp [World.setCell] at hz1
 try simp [World.setCell] at hbb
 have l2:0<R'*K'→b2<bd:=fun h=>by have:=k2' h;omega
 have l3:0<R'*K'→b3<bd:=fun h=>by have:=k3' h;omega
 have l4:0<m4→q4<bd:=fun h=>by have:=y4'.lt h;omega
 go_wp2
 go_loopw [17] (fun i wr=>∃ t:Nat,t≤R'*K'∧i=.int .i64 t∧Far (·=bd) w2 wr∧Box wr (w2).heap.size [.int .i64 R',.int .i64 K',.slice (some ⟨bd,0,none⟩) (R'*K') (R'*K')] 41 ∧
   Box wr bd ((pad (fun t=>ix ys t) (R'*K') t).map (Value.int .i64)) 3) (fun i _=>R'*K' - (intOf i).toNat)
 case atStart=>exact ⟨0,Nat.zero_le _,rfl,(Far.refl _ _).al _,Box.new _ _ _,by rw [pad_zero];exact hB.alloc _⟩
 case round=>
  obtain ⟨t,hk,rfl,hfr,Bm,Bc⟩:=hrel
  have Bmc:=Bm.cell
  have Bmf:=Bm.thawed
  have Bmz:=Bm.lt
  replace B0:=B0.farS hfr (by omega)
  have B0c:=B0.cell
  have B0f:=B0.thawed
  have B0z:=B0.lt
  have B0k:=lt_add B0z
  replace B1:=B1.farS hfr (by omega)
  have B1c:=B1.cell
  have B1f:=B1.thawed
  have B1z:=B1.lt
  have B1k:=lt_add B1z
  replace B2:=B2.farS hfr (by omega)
  have B2c:=B2.cell
  have B2f:=B2.thawed
  have B2z:=B2.lt
  have B2k:=lt_add B2z
  replace B3:=B3.farS hfr (by omega)
  have B3c:=B3.cell
  have B3f:=B3.thawed
  have B3z:=B3.lt
  have B3k:=lt_add B3z
  replace B4:=B4.farS hfr (by omega)
  have B4c:=B4.cell
  have B4f:=B4.thawed
  have B4z:=B4.lt
  have B4k:=lt_add B4z
  replace E5:=E5.farS hfr (by omega)
  have E5c:=E5.cell
  have E5f:=E5.thawed
  have E5z:=E5.lt
  have E5k:=lt_add E5z
  replace x2:=x2.farS hfr (by intro hn e;have:=l2 hn;omega)
  replace x3:=x3.farS hfr (by intro hn e;have:=l3 hn;omega)
  replace y4:=y4.farS hfr (by intro h e;have:=l4 h;omega)
  by_cases hlt:t<R'*K'
  ·obtain rfl:=x2.ptr (by omega)
   obtain rfl:=x3.ptr (by omega)
   have c0:=x2.cell t hlt
   have c1:=x3.cell t hlt
   have cc:=Bc.icell (k:=t) (by rw [pad_length];exact hlt)
   rw [pad_ix hlt,if_neg (Nat.lt_irrefl _)] at cc
   have hltI:(t:Int)<(R':Int)*K':=by rw [← Int.natCast_mul];omega
   have cf:=Bc.thawed t
   go_wp2_with fail
   refine wp_region_still_tail 9 (by kernel_rfl) (by kernel_rfl) ?_
   simp only [List.take_succ_cons,List.take_zero,List.drop_succ_cons,List.drop_zero]
   repeat (first|fail|still_step)
   refine wpStill_nil ?_
   go_wp2
   go_roundw
   case rel=>
    refine ⟨t+1,by omega,by go_num,(hfr.drN _).st (fun _=>rfl) _,Bm.k,?_⟩
    have hs:=Bc.iset t (ix ys t)
    rw [pad_set (g:=fun t=>ix ys t) hlt] at hs
    exact hs
   case measure=>simp [intOf];omega
  ·skip
   obtain rfl:t=R'*K':=by omega
   have hbl:=Far.toBelow hwl hfr (by omega) (by rintro t rfl;omega)
   have ip:=ints_pad Bc (by unfold maxLen;omega)
   have lb:0<R'*K'→w.heap.size+1+1+1+1+1<bd:=fun _=>by omega
   go_wp2_with fail
   go_region_held3 (fun w'=>w'.cell? ⟨w2.heap.size,0,none⟩=some (.int .i64 R')∧w'.cell? ⟨w2.heap.size,1,none⟩=some (.int .i64 K')∧w'.cell? ⟨w2.heap.size,2,none⟩=some (.slice (some ⟨bd,0,none⟩) (R'*K') (R'*K'))∧w'.cell? ⟨w.heap.size+1+1+1+1+1,0,none⟩=some (.int .i64 0)∧w'.cell? ⟨w.heap.size+1+1+1+1+1,1,none⟩=some (.int .i64 0)∧w'.cell? ⟨w.heap.size+1+1+1+1+1,2,none⟩=some (.slice none 0 0)∧w'.cell? ⟨w.heap.size+1+1+1+1+1,3,none⟩=some (.int .i64 (matSums ⟨R',K',ys⟩).rows)∧w'.cell? ⟨w.heap.size+1+1+1+1+1,4,none⟩=some (.int .i64 (matSums ⟨R',K',ys⟩).cols)∧w'.cell? ⟨w.heap.size+1+1+1+1+1,5,none⟩=some (.slice c4 m4 p4)) (exact cells36 (t:=41) (u:=86) Bm.k E5.k) (fail)
   all_goals (
    go_wp2
    refine bodyPost_ret (v:=.tuple #[.agg #[.int .i64 R',.int .i64 K',.slice (some ⟨bd,0,none⟩) (R'*K') (R'*K')],.agg #[.int .i64 0,.int .i64 0,.slice none 0 0,.int .i64 (matSums ⟨R',K',ys⟩).rows,.int .i64 (matSums ⟨R',K',ys⟩).cols,.slice c4 m4 p4]]) ?_ rfl ⟨_,_,rfl,?_,?_,?_⟩
    ·simp [results,Tryz.results77,go_sem,B3c,B4c,B3z,B4z]
    ·exact MatNew.mk (b:=bd) (off:=0) (fun _=>by omega) (by repeat (first|(with_reducible first|exact ip|refine IntsAt.alloc ?_ _|refine IntsAt.drewN ?_ _|refine IntsAt.drew ?_|(refine IntsAt.set ?_ ?_ _;rotate_left 1;(intro h0;have hq0:=lb h0;first|(dsimp only;omega)|omega|(simp;omega)|simp)))|exact ip))
    ·skip
     exact ⟨none,0,0,0,0,c4,m4,p4,q4,r4,rfl,fun h=>absurd h (Nat.lt_irrefl _),noInts _,fun h=>by have:=e4 h;omega,(by repeat (first|(with_reducible first|exact y4|refine IntsAt.alloc ?_ _|refine IntsAt.drewN ?_ _|refine IntsAt.drew ?_|(refine IntsAt.set ?_ ?_ _;rotate_left 1;(intro h0;have hq0:=e4 h0;first|(dsimp only;omega)|omega|(simp;omega)|simp)))|exact y4))⟩
    ·exact (Below.y0 hbl))
theorem refBackOf_any (l:Lay) (x g:Mat) (v u t:Value) (w:World) (h:LayAt w v l) (hu:MatAt w u x) (ht:MatAt w t g) (hf:l.backFault x g=0) :
  Calls Tryz.prog 77 #[v,u,t] w fun e w'=>∃ y d,e=.returned (.tuple #[y,d])∧MatNew w.heap.size w' y (l.back x g)∧GrdNew w.heap.size w' d (l.grad x g)∧Below w.heap.size w w':=by
 obtain ⟨a,n,k,b,o,a',n',k',b',o',rfl,x0,x1⟩:=h
 obtain ⟨a2,n2,k2,b2,o2,rfl,x2⟩:=hu
 obtain ⟨a3,n3,k3,b3,o3,rfl,x3⟩:=ht
 obtain ⟨f1,f2,f3,f4,f5⟩:=Lay.backFault_ok hf
 obtain ⟨g1,g2,g3⟩:=Lay.goFault_ok f1
 obtain ⟨h1,h2,_,_,_⟩:=Lay.fault_ok g1
 obtain ⟨kd,W,B⟩:=l
 dsimp only at h1 h2 x0 x1 ⊢
 rcases (by omega:kd=1∨kd=2∨kd=3∨kd=4) with rfl|rfl|rfl|rfl
 ·exact refBackOf_1 W B x g _ _ _ _ _ _ _ _ _ _ _ _ _ _ _ _ _ _ _ _ w x0 x1 x2 x3 ⟨⟨g1,g2,g3⟩,f2,f3,f4,f5⟩
 ·exact refBackOf_2 W B x g _ _ _ _ _ _ _ _ _ _ _ _ _ _ _ _ _ _ _ _ w x0 x1 x2 x3 ⟨⟨g1,g2,g3⟩,f2,f3,f4,f5⟩
 ·exact refBackOf_3 W B x g _ _ _ _ _ _ _ _ _ _ _ _ _ _ _ _ _ _ _ _ w x0 x1 x2 x3 ⟨⟨g1,g2,g3⟩,f2,f3,f4,f5⟩
 ·exact refBackOf_4 W B x g _ _ _ _ _ _ _ _ _ _ _ _ _ _ _ _ _ _ _ _ w x0 x1 x2 x3 ⟨⟨g1,g2,g3⟩,f2,f3,f4,f5⟩
end Go.Proofs.YtchngeagnlngaaaGreatDoor
end
