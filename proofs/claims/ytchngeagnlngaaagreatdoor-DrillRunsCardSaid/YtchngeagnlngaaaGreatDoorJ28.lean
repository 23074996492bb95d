/- Texts joined: Lay11, Lay12, LayShort. -/
import Derived.Test.YtchngeagnlngaaaGreatDoorJ27
set_option linter.unusedVariables false
set_option linter.unusedSimpArgs false
section
namespace Go.Proofs.YtchngeagnlngaaaGreatDoor
open Go.RowKit Gal
set_option maxRecDepth 100000
set_option maxHeartbeats 40000000
structure BackCut (w:World) (l:Lay) (x g:Mat) (s12 s13:Value) (wx:World):Prop where
 holds:∃ p q a n k b o a' n' k' b' o' a2 n2 k2 b2 o2,s12=.pointer (some ⟨p,0,none⟩)∧s13=.pointer (some ⟨q,0,none⟩)∧w.heap.size+1+1+1+1<p∧w.heap.size+1+1+1+1<q ∧
  Box wx p [.int .i64 (l.back x g).rows,.int .i64 (l.back x g).cols,.slice a n k] 41 ∧
  Box wx q [.int .i64 (l.grad x g).W.rows,.int .i64 (l.grad x g).W.cols,.slice a' n' k',.int .i64 (l.grad x g).B.rows,.int .i64 (l.grad x g).B.cols,.slice a2 n2 k2] 86 ∧
  Box wx (w.heap.size+1+1+1) [.int .i64 0,.int .i64 0,.slice none 0 0] 41 ∧
  Box wx (w.heap.size+1+1+1+1) [.int .i64 0,.int .i64 0,.slice none 0 0,.int .i64 0,.int .i64 0,.slice none 0 0] 86∧Below w.heap.size w wx ∧
  (0<n→w.heap.size+1+1+1+1<b)∧IntsAt wx a n k b o (l.back x g).cells∧(0<n'→w.heap.size+1+1+1+1<b')∧IntsAt wx a' n' k' b' o' (l.grad x g).W.cells∧(0<n2→w.heap.size+1+1+1+1<b2)∧IntsAt wx a2 n2 k2 b2 o2 (l.grad x g).B.cells
theorem layBack_gen (kd:Int) (W B x g:Mat) (tk:TypeId) (fk:FuncId) (a a' a2 a3:Option Addr) (n n' n2 n3 k k' k2 k3 b b' b2 b3 o o' o2 o3:Nat) (w:World) (x0:IntsAt w a n k b o W.cells) (x1:IntsAt w a' n' k' b' o' B.cells) (x2:IntsAt w a2 n2 k2 b2 o2 x.cells) (x3:IntsAt w a3 n3 k3 b3 o3 g.cells) (hf:Lay.backFault ⟨kd,W,B⟩ x g=0)
  (hof:∀ w,Calls Tryz.prog 80 #[.int .i64 kd] w fun e w'=>e=.returned (.iface tk (.agg #[]))∧w=w')
  (hm:∀ w,(Go.method 353 tk (.agg #[]) "galley/layer.back").run Tryz.prog w=.ok (fk,.agg #[]) w)
  (hn:∀ w,(Go.nilAhead 353 tk (.agg #[]) "galley/layer.back").run Tryz.prog w=.ok (some false) w)
  (hcf:∀ (vs:Array Value) (W:World),(callFunc fk vs).run Tryz.prog W=.ok (.enter fk vs) W)
  (hback:∀ U,IntsAt U a n k b o W.cells→IntsAt U a' n' k' b' o' B.cells→IntsAt U a2 n2 k2 b2 o2 x.cells→IntsAt U a3 n3 k3 b3 o3 g.cells →
   Calls Tryz.prog fk #[.agg #[],.agg #[.int .i64 kd,.int .i64 W.rows,.int .i64 W.cols,.slice a n k,.int .i64 B.rows,.int .i64 B.cols,.slice a' n' k'],.agg #[.int .i64 x.rows,.int .i64 x.cols,.slice a2 n2 k2],.agg #[.int .i64 g.rows,.int .i64 g.cols,.slice a3 n3 k3]] U fun e w'=>
    ∃ v d,e=.returned (.tuple #[v,d])∧MatNew U.heap.size w' v (Lay.back ⟨kd,W,B⟩ x g)∧GrdNew U.heap.size w' d (Lay.grad ⟨kd,W,B⟩ x g)∧Below U.heap.size U w') :
  Calls Tryz.prog 90 #[.agg #[.int .i64 kd,.int .i64 W.rows,.int .i64 W.cols,.slice a n k,.int .i64 B.rows,.int .i64 B.cols,.slice a' n' k'],.agg #[.int .i64 x.rows,.int .i64 x.cols,.slice a2 n2 k2],.agg #[.int .i64 g.rows,.int .i64 g.cols,.slice a3 n3 k3]] w (BackPost w ⟨kd,W,B⟩ x g):=by
 obtain ⟨h1,h2,h3,h4,h5⟩:=Lay.backFault_ok hf
 have q1:(g.rows != x.rows)=false:=by simp [h3]
 have q2:(g.cols != Lay.wide ⟨kd,W,B⟩ x.cols)=false:=by simp [h4]
 have HE:=Lib.hid (show errV (Lay.goFault ⟨kd,W,B⟩ x)=.nilIface from errV_nil h1)
 have HE2:=Lib.hid (show errV (matFault g.rows g.cols g.cells)=.nilIface from errV_nil h2)
 have HK:=Lib.hid (okOr_ok (x:=Lay.wide ⟨kd,W,B⟩ x.cols) h1)
 have HF:=Lib.hid hf
 have H5:=Lib.hid h5
 have HOF:=Lib.hid hof
 have HBK:=Lib.hid hback
 clear h1 h2 h3 h4 h5 hf hof hback
 go_enter Tryz.func90,Tryz.ntmps90
 go_wp2_with fail
 refine (layEnter_any ⟨kd,W,B⟩ x _ _ _ ⟨_,_,_,_,_,_,_,_,_,_,rfl,x0.alloc _ |>.alloc _ |>.alloc _ |>.alloc _ |>.alloc _,x1.alloc _ |>.alloc _ |>.alloc _ |>.alloc _ |>.alloc _⟩ (MatAt.mk (x2.alloc _ |>.alloc _ |>.alloc _ |>.alloc _ |>.alloc _))).mono ?_
 rw [HE.out,HK.out]
 rintro e w1 ⟨rfl,hb1⟩
 have B0:=((show Box _ w.heap.size [.int .i64 kd,.int .i64 W.rows,.int .i64 W.cols,.slice a n k,.int .i64 B.rows,.int .i64 B.cols,.slice a' n' k'] 84 from Box.x0)).keep hb1
 have B0c:=B0.cell
 have B0f:=B0.thawed
 have B0z:=B0.lt
 have B0k:=lt_add B0z
 have B1:=((show Box _ (w.heap.size+1) [.int .i64 x.rows,.int .i64 x.cols,.slice a2 n2 k2] 41 from Box.x0)).keep hb1
 have B1c:=B1.cell
 have B1f:=B1.thawed
 have B1z:=B1.lt
 have B1k:=lt_add B1z
 have B2:=((show Box _ (w.heap.size+1+1) [.int .i64 g.rows,.int .i64 g.cols,.slice a3 n3 k3] 41 from Box.x0)).keep hb1
 have B2c:=B2.cell
 have B2f:=B2.thawed
 have B2z:=B2.lt
 have B2k:=lt_add B2z
 have B3:=((show Box _ (w.heap.size+1+1+1) [.int .i64 0,.int .i64 0,.slice none 0 0] 41 from Box.x0)).keep hb1
 have B3c:=B3.cell
 have B3f:=B3.thawed
 have B3z:=B3.lt
 have B3k:=lt_add B3z
 have B4:=((show Box _ (w.heap.size+1+1+1+1) [.int .i64 0,.int .i64 0,.slice none 0 0,.int .i64 0,.int .i64 0,.slice none 0 0] 86 from Box.x0)).keep hb1
 have B4c:=B4.cell
 have B4f:=B4.thawed
 have B4z:=B4.lt
 have B4k:=lt_add B4z
 have hkw1:Below w.heap.size w w1:=(Below.x1 hb1)
 replace x0:=x0.keep hkw1
 replace x1:=x1.keep hkw1
 replace x2:=x2.keep hkw1
 replace x3:=x3.keep hkw1
 have hsw1:=hkw1.size
 go_wp2_with fail
 refine (matCheck_any _ _ _ _ _ _ _ g.cells _ x3).mono ?_
 rw [HE2.out]
 rintro e w2 ⟨rfl,hb2⟩
 have hkw2:Below w1.heap.size w1 w2:=(Below.x1 hb2)
 replace B0:=B0.keep hkw2
 replace B0c:=B0.cell
 replace B0f:=B0.thawed
 replace B0z:=B0.lt
 replace B0k:=lt_add B0z
 replace B1:=B1.keep hkw2
 replace B1c:=B1.cell
 replace B1f:=B1.thawed
 replace B1z:=B1.lt
 replace B1k:=lt_add B1z
 replace B2:=B2.keep hkw2
 replace B2c:=B2.cell
 replace B2f:=B2.thawed
 replace B2z:=B2.lt
 replace B2k:=lt_add B2z
 replace B3:=B3.keep hkw2
 replace B3c:=B3.cell
 replace B3f:=B3.thawed
 replace B3z:=B3.lt
 replace B3k:=lt_add B3z
 replace B4:=B4.keep hkw2
 replace B4c:=B4.cell
 replace B4f:=B4.thawed
 replace B4z:=B4.lt
 replace B4k:=lt_add B4z
 replace x0:=x0.keep hkw2
 replace x1:=x1.keep hkw2
 replace x2:=x2.keep hkw2
 replace x3:=x3.keep hkw2
 have hsw2:=hkw2.size
 have hz:Below w.heap.size w w2:=(Below.x2 hb2 hb1)
 have hz2:w.heap.size+1+1+1+1<w2.heap.size:=B4z
 go_upto_region 9 with fail
 go_cut [53] (fun s53 wx=>s53=.bool false∧w2=wx)
 case first=>
  by_cases hk:kd=1
  ·have hq:(kd == 1)=true:=by simp [hk]
   have h6:x.rows≤12:=H5.out hk
   clear hk
   go_wp2_with fail
   go_meet
   exact ⟨by simp;omega,rfl⟩
  ·have hq:(kd == 1)=false:=by simp [hk]
   clear hk
   go_wp2_with fail
   go_meet
   exact ⟨rfl,rfl⟩
 case rest=>
 obtain ⟨rfl,rfl⟩:=hcut
 clear q1 q2 HE HE2 HK H5 B0c B0f B0z B0k B1c B1f B1z B1k B2c B2f B2z B2k B3c B3f B3z B3k B4c B4f B4z B4k
 go_upto_region 11 with fail
 go_cut [12,13] (fun s12 s13 wx=>BackCut w ⟨kd,W,B⟩ x g s12 s13 wx)
 case first=>
  go_region_held3 (fun w'=>w'.cell? ⟨w.heap.size,0,none⟩=some (.int .i64 kd)∧w'.cell? ⟨w.heap.size,1,none⟩=some (.int .i64 W.rows)∧w'.cell? ⟨w.heap.size,2,none⟩=some (.int .i64 W.cols)∧w'.cell? ⟨w.heap.size,3,none⟩=some (.slice a n k)∧w'.cell? ⟨w.heap.size,4,none⟩=some (.int .i64 B.rows)∧w'.cell? ⟨w.heap.size,5,none⟩=some (.int .i64 B.cols)∧w'.cell? ⟨w.heap.size,6,none⟩=some (.slice a' n' k')∧w'.cell? ⟨w.heap.size+1,0,none⟩=some (.int .i64 x.rows)∧w'.cell? ⟨w.heap.size+1,1,none⟩=some (.int .i64 x.cols)∧w'.cell? ⟨w.heap.size+1,2,none⟩=some (.slice a2 n2 k2)∧w'.cell? ⟨w.heap.size+1+1,0,none⟩=some (.int .i64 g.rows)∧w'.cell? ⟨w.heap.size+1+1,1,none⟩=some (.int .i64 g.cols)∧w'.cell? ⟨w.heap.size+1+1,2,none⟩=some (.slice a3 n3 k3)) (exact cells733 (t:=84) (u:=41) (s:=41) (by first|exact B0.k1 hb5|exact B0.k) (by first|exact B1.k1 hb5|exact B1.k) (by first|exact B2.k1 hb5|exact B2.k)) (first|(go_at_call 80;go_must (refine (HOF.out _).mono ?_);go_must (rintro e w' ⟨rfl,rfl⟩))|(refine (HBK.out _ x0.k x1.k x2.k x3.k).mono ?_;go_must (rintro e w5 ⟨v2,d2,rfl,⟨a5,n5,k5,b5,o5,rfl,hn5,x5⟩,⟨a6,n6,k6,b6,o6,a7,n7,k7,b7,o7,rfl,hn6,x6,hn7,x7⟩,hb5⟩);(try (refine (fun (P1:Box w5 (w2.heap.size) [.int .i64 0,.int .i64 0,.slice none 0 0] 41)=>?_) ?_;rotate_left 1;(with_reducible refine Box.keep ?_ hb5);(focus ((repeat (first|(with_reducible refine (Box.new' _ (w2.heap.size) _ _ ?_);(simp;done))|(with_reducible refine Box.alloc ?_ _)|(with_reducible refine Box.drew ?_)|(with_reducible refine Box.drewN ?_ _)));done));have P1c:=P1.cell;have P1f:=P1.thawed;have P1z:=P1.lt));(try (refine (fun (P2:Box w5 (w2.heap.size) [.int .i64 0,.int .i64 0,.slice none 0 0,.int .i64 0,.int .i64 0,.slice none 0 0] 86)=>?_) ?_;rotate_left 1;(with_reducible refine Box.keep ?_ hb5);(focus ((repeat (first|(with_reducible refine (Box.new' _ (w2.heap.size) _ _ ?_);(simp;done))|(with_reducible refine Box.alloc ?_ _)|(with_reducible refine Box.drew ?_)|(with_reducible refine Box.drewN ?_ _)));done));have P2c:=P2.cell;have P2f:=P2.thawed;have P2z:=P2.lt));(try (refine (fun (P3:Box w5 (w2.heap.size+1) [.int .i64 0,.int .i64 0,.slice none 0 0] 41)=>?_) ?_;rotate_left 1;(with_reducible refine Box.keep ?_ hb5);(focus ((repeat (first|(with_reducible refine (Box.new' _ (w2.heap.size+1) _ _ ?_);(simp;done))|(with_reducible refine Box.alloc ?_ _)|(with_reducible refine Box.drew ?_)|(with_reducible refine Box.drewN ?_ _)));done));have P3c:=P3.cell;have P3f:=P3.thawed;have P3z:=P3.lt));(try (refine (fun (P4:Box w5 (w2.heap.size+1) [.int .i64 0,.int .i64 0,.slice none 0 0,.int .i64 0,.int .i64 0,.slice none 0 0] 86)=>?_) ?_;rotate_left 1;(with_reducible refine Box.keep ?_ hb5);(focus ((repeat (first|(with_reducible refine (Box.new' _ (w2.heap.size+1) _ _ ?_);(simp;done))|(with_reducible refine Box.alloc ?_ _)|(with_reducible refine Box.drew ?_)|(with_reducible refine Box.drewN ?_ _)));done));have P4c:=P4.cell;have P4f:=P4.thawed;have P4z:=P4.lt));(have hs5:=hb5.size;simp at hs5;have hz5:w.heap.size+1+1+1+1<w5.heap.size:=by omega)))
  all_goals (
   go_wp2_with fail
   go_meet
   simp at hn5 hn6 hn7
   refine ⟨⟨_,_,a5,n5,k5,b5,o5,a6,n6,k6,b6,o6,a7,n7,k7,b7,o7,rfl,rfl,by omega,by omega,?_,?_,(by repeat (first|(with_reducible first|exact B3|refine Box.alloc ?_ _|refine Box.drewN ?_ _|refine Box.drew ?_|refine Box.set6z ?_ _ _ _ _ _ _|refine Box.set3z ?_ _ _ _|refine Box.fx ?_ _|refine Box.keep ?_ hb5)|exact B3)),(by repeat (first|(with_reducible first|exact B4|refine Box.alloc ?_ _|refine Box.drewN ?_ _|refine Box.drew ?_|refine Box.set6z ?_ _ _ _ _ _ _|refine Box.set3z ?_ _ _ _|refine Box.fx ?_ _|refine Box.keep ?_ hb5)|exact B4)),(Below.y1 hb5 hz),fun h=>by have:=hn5 h;omega,?_,fun h=>by have:=hn6 h;omega,?_,fun h=>by have:=hn7 h;omega,?_⟩⟩
   ·exact (by repeat (first|(with_reducible first|(refine (Box.new' _ _ _ _ ?_);(simp;done))|refine Box.alloc ?_ _|refine Box.drewN ?_ _|refine Box.drew ?_|refine Box.set6z ?_ _ _ _ _ _ _|refine Box.set3z ?_ _ _ _|refine Box.fx ?_ _|refine Box.keep ?_ hb5)))
   ·exact (by repeat (first|(with_reducible first|(refine (Box.new' _ _ _ _ ?_);(simp;done))|refine Box.alloc ?_ _|refine Box.drewN ?_ _|refine Box.drew ?_|refine Box.set6z ?_ _ _ _ _ _ _|refine Box.set3z ?_ _ _ _|refine Box.fx ?_ _|refine Box.keep ?_ hb5)))
   ·exact (by repeat (first|(with_reducible first|exact x5|refine IntsAt.alloc ?_ _|refine IntsAt.drewN ?_ _|refine IntsAt.drew ?_|(refine IntsAt.set ?_ ?_ _;rotate_left 1;(intro h0;have hq0:=hn5 h0;first|(dsimp only;omega)|omega|(simp;omega)|simp)))|exact x5))
   ·exact (by repeat (first|(with_reducible first|exact x6|refine IntsAt.alloc ?_ _|refine IntsAt.drewN ?_ _|refine IntsAt.drew ?_|(refine IntsAt.set ?_ ?_ _;rotate_left 1;(intro h0;have hq0:=hn6 h0;first|(dsimp only;omega)|omega|(simp;omega)|simp)))|exact x6))
   ·exact (by repeat (first|(with_reducible first|exact x7|refine IntsAt.alloc ?_ _|refine IntsAt.drewN ?_ _|refine IntsAt.drew ?_|(refine IntsAt.set ?_ ?_ _;rotate_left 1;(intro h0;have hq0:=hn7 h0;first|(dsimp only;omega)|omega|(simp;omega)|simp)))|exact x7)))
 case rest=>
  obtain ⟨⟨p,q,a5,n5,k5,b5,o5,a6,n6,k6,b6,o6,a7,n7,k7,b7,o7,rfl,rfl,hp,hq,Bp,Bq,C3,C4,hbw,hn5,x5,hn6,x6,hn7,x7⟩⟩:=hcut
  have C3c:=C3.cell
  have C3f:=C3.thawed
  have C4c:=C4.cell
  have C4f:=C4.thawed
  have hz:=C4.lt
  go_wp2_with fail
  go_region_held3 (fun w'=>w'.cell? ⟨p,0,none⟩=some (.int .i64 (Lay.back ⟨kd,W,B⟩ x g).rows)∧w'.cell? ⟨p,1,none⟩=some (.int .i64 (Lay.back ⟨kd,W,B⟩ x g).cols)∧w'.cell? ⟨p,2,none⟩=some (.slice a5 n5 k5)∧w'.cell? ⟨q,0,none⟩=some (.int .i64 (Lay.grad ⟨kd,W,B⟩ x g).W.rows)∧w'.cell? ⟨q,1,none⟩=some (.int .i64 (Lay.grad ⟨kd,W,B⟩ x g).W.cols)∧w'.cell? ⟨q,2,none⟩=some (.slice a6 n6 k6)∧w'.cell? ⟨q,3,none⟩=some (.int .i64 (Lay.grad ⟨kd,W,B⟩ x g).B.rows)∧w'.cell? ⟨q,4,none⟩=some (.int .i64 (Lay.grad ⟨kd,W,B⟩ x g).B.cols)∧w'.cell? ⟨q,5,none⟩=some (.slice a7 n7 k7)) (exact cells36 (t:=41) (u:=86) Bp.k Bq.k) (fail)
  all_goals (
   go_wp2
   refine bodyPost_ret (v:=.tuple #[.agg #[.int .i64 (Lay.back ⟨kd,W,B⟩ x g).rows,.int .i64 (Lay.back ⟨kd,W,B⟩ x g).cols,.slice a5 n5 k5],.agg #[.int .i64 (Lay.grad ⟨kd,W,B⟩ x g).W.rows,.int .i64 (Lay.grad ⟨kd,W,B⟩ x g).W.cols,.slice a6 n6 k6,.int .i64 (Lay.grad ⟨kd,W,B⟩ x g).B.rows,.int .i64 (Lay.grad ⟨kd,W,B⟩ x g).B.cols,.slice a7 n7 k7],.nilIface]) ?_ rfl ⟨_,_,by rw [errV_nil HF.out],?_,?_,?_⟩
   ·simp [results,Tryz.results90,go_sem,C3c,C4c,hz]
   ·rw [orNone_ok HF.out]
    exact MatNew.mk (b:=b5) (off:=o5) (fun h=>by have:=hn5 h;omega) (by repeat (first|(with_reducible first|exact x5|refine IntsAt.alloc ?_ _|refine IntsAt.drewN ?_ _|refine IntsAt.drew ?_|(refine IntsAt.set ?_ ?_ _;rotate_left 1;(intro h0;have hq0:=hn5 h0;first|(dsimp only;omega)|omega|(simp;omega)|simp)))|exact x5))
   ·rw [orGrd_ok HF.out]
    exact ⟨a6,n6,k6,b6,o6,a7,n7,k7,b7,o7,rfl,fun h=>by have:=hn6 h;omega,(by repeat (first|(with_reducible first|exact x6|refine IntsAt.alloc ?_ _|refine IntsAt.drewN ?_ _|refine IntsAt.drew ?_|(refine IntsAt.set ?_ ?_ _;rotate_left 1;(intro h0;have hq0:=hn6 h0;first|(dsimp only;omega)|omega|(simp;omega)|simp)))|exact x6)),fun h=>by have:=hn7 h;omega,(by repeat (first|(with_reducible first|exact x7|refine IntsAt.alloc ?_ _|refine IntsAt.drewN ?_ _|refine IntsAt.drew ?_|(refine IntsAt.set ?_ ?_ _;rotate_left 1;(intro h0;have hq0:=hn7 h0;first|(dsimp only;omega)|omega|(simp;omega)|simp)))|exact x7))⟩
   ·exact (Below.y0 hbw))
end Go.Proofs.YtchngeagnlngaaaGreatDoor
end
section
namespace Go.Proofs.YtchngeagnlngaaaGreatDoor
open Go.RowKit Gal
set_option maxRecDepth 100000
theorem cf_back1 (vs:Array Value) (W:World):(callFunc 143 vs).run Tryz.prog W=.ok (.enter 143 vs) W:=by kernel_rfl
theorem cf_back2 (vs:Array Value) (W:World):(callFunc 157 vs).run Tryz.prog W=.ok (.enter 157 vs) W:=by kernel_rfl
theorem cf_back3 (vs:Array Value) (W:World):(callFunc 163 vs).run Tryz.prog W=.ok (.enter 163 vs) W:=by kernel_rfl
theorem cf_back4 (vs:Array Value) (W:World):(callFunc 167 vs).run Tryz.prog W=.ok (.enter 167 vs) W:=by kernel_rfl
theorem layBack_any (l:Lay) (x g:Mat) (v u t:Value) (w:World) (h:LayAt w v l) (hu:MatAt w u x) (ht:MatAt w t g):Calls Tryz.prog 90 #[v,u,t] w (BackPost w l x g):=by
 obtain ⟨a,n,k,b,o,a',n',k',b',o',rfl,x0,x1⟩:=h
 obtain ⟨a2,n2,k2,b2,o2,rfl,x2⟩:=hu
 obtain ⟨a3,n3,k3,b3,o3,rfl,x3⟩:=ht
 by_cases hf:l.backFault x g=0
 ·obtain ⟨f1,f2,f3,f4,f5⟩:=Lay.backFault_ok hf
  obtain ⟨g1,g2,g3⟩:=Lay.goFault_ok f1
  obtain ⟨h1,h2,_,_,_⟩:=Lay.fault_ok g1
  obtain ⟨kd,W,B⟩:=l
  dsimp only at h1 h2 x0 x1 ⊢
  rcases (by omega:kd=1∨kd=2∨kd=3∨kd=4) with rfl|rfl|rfl|rfl
  ·exact layBack_gen 1 W B x g 196 143 a a' a2 a3 n n' n2 n3 k k' k2 k3 b b' b2 b3 o o' o2 o3 w x0 x1 x2 x3 hf of_1 m_back_1 n_back_1 cf_back1 fun U y0 y1 y2 y3=>back_1 W B x g a2 a3 a a' n2 k2 b2 o2 n3 k3 b3 o3 n k b o n' k' U y2 y3 y0 ⟨⟨g1,g2,g3⟩,f2,f3,f4,f5⟩
  ·exact layBack_gen 2 W B x g 199 157 a a' a2 a3 n n' n2 n3 k k' k2 k3 b b' b2 b3 o o' o2 o3 w x0 x1 x2 x3 hf of_2 m_back_2 n_back_2 cf_back2 fun U y0 y1 y2 y3=>back_2 W B x g a2 a3 a a' n2 k2 b2 o2 n3 k3 b3 o3 n k n' k' U y2 y3 ⟨⟨g1,g2,g3⟩,f2,f3,f4,f5⟩
  ·exact layBack_gen 3 W B x g 200 163 a a' a2 a3 n n' n2 n3 k k' k2 k3 b b' b2 b3 o o' o2 o3 w x0 x1 x2 x3 hf of_3 m_back_3 n_back_3 cf_back3 fun U y0 y1 y2 y3=>back_3 W B x g a2 a3 a a' n2 k2 b2 o2 n3 k3 b3 o3 n k b o n' k' U y2 y3 y0 ⟨⟨g1,g2,g3⟩,f2,f3,f4,f5⟩
  ·exact layBack_gen 4 W B x g 201 167 a a' a2 a3 n n' n2 n3 k k' k2 k3 b b' b2 b3 o o' o2 o3 w x0 x1 x2 x3 hf of_4 m_back_4 n_back_4 cf_back4 fun U y0 y1 y2 y3=>back_4 W B x g a2 a3 a a' n2 k2 n3 k3 b3 o3 n k n' k' U y3 ⟨⟨g1,g2,g3⟩,f2,f3,f4,f5⟩
 ·by_cases h1:l.goFault x=0
  ·by_cases h2:g.fault=0
   ·by_cases h3:g.rows=x.rows
    ·by_cases h4:g.cols=l.wide x.cols
     ·have h5:l.kind=1∧12<x.rows:=by
       by_cases h5:l.kind=1∧12<x.rows
       ·exact h5
       ·refine absurd ?_ hf
        unfold Lay.backFault
        rw [if_neg (by simp [h1]),if_neg (by simp [h2]),if_neg (by simp [h3,h4]),if_neg h5]
      exact layBack_bad5 l x g a a' a2 a3 n n' n2 n3 k k' k2 k3 b b' b2 b3 o o' o2 o3 w x0 x1 x2 x3 h1 h2 h3 h4 h5.1 h5.2
     ·exact layBack_bad4 l x g a a' a2 a3 n n' n2 n3 k k' k2 k3 b b' b2 b3 o o' o2 o3 w x0 x1 x2 x3 h1 h2 h3 h4
    ·exact layBack_bad3 l x g a a' a2 a3 n n' n2 n3 k k' k2 k3 b b' b2 b3 o o' o2 o3 w x0 x1 x2 x3 h1 h2 h3
   ·exact layBack_bad2 l x g a a' a2 a3 n n' n2 n3 k k' k2 k3 b b' b2 b3 o o' o2 o3 w x0 x1 x2 x3 h1 h2
  ·exact layBack_bad1 l x g a a' a2 a3 n n' n2 n3 k k' k2 k3 b b' b2 b3 o o' o2 o3 w x0 x1 x2 x3 h1
end Go.Proofs.YtchngeagnlngaaaGreatDoor
end
section
namespace Go.Proofs.YtchngeagnlngaaaGreatDoor
open Go.RowKit Gal
section
variable {l:Lay} {m y g:Mat} {v u t:Value} {w:World}
theorem layGo_is (h:LayAt w v l) (hu:MatAt w u m) (hf:l.goFault m=0) (hy:l.go m=y) :
  Calls Tryz.prog 86 #[v,u] w fun e w'=>∃ x,e=.returned (.tuple #[x,.nilIface])∧MatNew w.heap.size w' x y∧Below w.heap.size w w':=by
 have:=layGo_any l m v u w h hu
 rw [orNone_ok hf,errV_nil hf,hy] at this
 exact this
theorem layGo_not (h:LayAt w v l) (hu:MatAt w u m) (hf:l.goFault m≠0) :
  Calls Tryz.prog 86 #[v,u] w fun e w'=>∃ x,e=.returned (.tuple #[x,.iface 36 (.int .i64 (l.goFault m))])∧MatNew w.heap.size w' x Mat.none∧Below w.heap.size w w':=by
 have:=layGo_any l m v u w h hu
 rw [orNone_bad hf,errV_err hf] at this
 exact this
end
end Go.Proofs.YtchngeagnlngaaaGreatDoor
end
