/- Texts joined: Lay6, Lay7. -/
import Derived.Test.YtchngeagnlngaaaGreatDoorJ17
import Derived.Test.YtchngeagnlngaaaGreatDoorJ15
import Derived.BigRegion
set_option linter.unusedVariables false
set_option linter.unusedSimpArgs false
section
namespace Go.Proofs.YtchngeagnlngaaaGreatDoor
open Go.RowKit Gal
set_option maxRecDepth 100000
set_option maxHeartbeats 2000000
theorem m_run_1 (w:World):(Go.method 353 196 (.agg #[]) "galley/layer.run").run Tryz.prog w=.ok (145,.agg #[]) w:=by kernel_rfl
theorem n_run_1 (w:World):(Go.nilAhead 353 196 (.agg #[]) "galley/layer.run").run Tryz.prog w=.ok (some false) w:=by kernel_rfl
theorem m_run_2 (w:World):(Go.method 353 199 (.agg #[]) "galley/layer.run").run Tryz.prog w=.ok (159,.agg #[]) w:=by kernel_rfl
theorem n_run_2 (w:World):(Go.nilAhead 353 199 (.agg #[]) "galley/layer.run").run Tryz.prog w=.ok (some false) w:=by kernel_rfl
theorem m_run_3 (w:World):(Go.method 353 200 (.agg #[]) "galley/layer.run").run Tryz.prog w=.ok (165,.agg #[]) w:=by kernel_rfl
theorem n_run_3 (w:World):(Go.nilAhead 353 200 (.agg #[]) "galley/layer.run").run Tryz.prog w=.ok (some false) w:=by kernel_rfl
theorem m_run_4 (w:World):(Go.method 353 201 (.agg #[]) "galley/layer.run").run Tryz.prog w=.ok (169,.agg #[]) w:=by kernel_rfl
theorem n_run_4 (w:World):(Go.nilAhead 353 201 (.agg #[]) "galley/layer.run").run Tryz.prog w=.ok (some false) w:=by kernel_rfl
theorem layGo_bad (l:Lay) (m:Mat) (v u:Value) (w:World) (h:LayAt w v l) (hu:MatAt w u m) (hf:l.goFault m≠0) :
  Calls Tryz.prog 86 #[v,u] w fun e w'=>∃ x,e=.returned (.tuple #[x,errV (l.goFault m)])∧MatNew w.heap.size w' x (orNone (l.goFault m) (l.go m))∧Below w.heap.size w w':=by
 obtain ⟨a,n,k,b,o,a',n',k',b',o',rfl,x0,x1⟩:=h
 obtain ⟨a2,n2,k2,b2,o2,rfl,x2⟩:=hu
 have hE:errV (l.goFault m)=.iface 36 (.int .i64 (l.goFault m)):=errV_err hf
 rw [orNone_bad hf]
 have HE:=Lib.hid hE
 clear hf hE
 go_enter Tryz.func86,Tryz.ntmps86
 go_wp2_with fail
 refine (layEnter_any l m _ _ _ ⟨_,_,_,_,_,_,_,_,_,_,rfl,x0.alloc _ |>.alloc _ |>.alloc _,x1.alloc _ |>.alloc _ |>.alloc _⟩ (MatAt.mk (x2.alloc _ |>.alloc _ |>.alloc _))).mono ?_
 rw [HE.out]
 rintro e w1 ⟨rfl,hb1⟩
 have B2:=(Box.new' _ (w.heap.size+1+1) [.int .i64 0,.int .i64 0,.slice none 0 0] 41 (by simp)).keep hb1
 have B2c:=B2.cell
 have B2f:=B2.thawed
 have B2z:=B2.lt
 have B2k:=lt_add B2z
 go_wp2
 exact bodyPost_ret (v:=.tuple #[.agg #[.int .i64 0,.int .i64 0,.slice none 0 0],.iface 36 (.int .i64 (l.goFault m))]) (by simp [results,Tryz.results86,go_sem,B2c]) rfl ⟨_,by rw [HE.out],none_new _ _,(Below.x1 hb1)⟩
theorem layGo_1 (W B m:Mat) (v u:Value) (w:World) (h:LayAt w v ⟨1,W,B⟩) (hu:MatAt w u m) (hf:Lay.goFault ⟨1,W,B⟩ m=0) :
  Calls Tryz.prog 86 #[v,u] w fun e w'=>∃ x,e=.returned (.tuple #[x,.nilIface])∧MatNew w.heap.size w' x (Lay.go ⟨1,W,B⟩ m)∧Below w.heap.size w w':=by
 obtain ⟨a,n,k,b,o,a',n',k',b',o',rfl,x0,x1⟩:=h
 obtain ⟨a2,n2,k2,b2,o2,rfl,x2⟩:=hu
 dsimp only at x0 x1
 obtain ⟨g1,g2,g3⟩:=Lay.goFault_ok hf
 have hgs:Goes ⟨1,W,B⟩ m:=⟨g1,g2,g3⟩
 have hE:errV (Lay.goFault ⟨1,W,B⟩ m)=.nilIface:=errV_nil hf
 have HE:=Lib.hid hE
 have hm:∀ w,(Go.method 353 196 (.agg #[]) "galley/layer.run").run Tryz.prog w=.ok (145,.agg #[]) w:=m_run_1
 have hn:∀ w,(Go.nilAhead 353 196 (.agg #[]) "galley/layer.run").run Tryz.prog w=.ok (some false) w:=n_run_1
 have HG:=Lib.hid hgs
 clear hf hE g1 g2 g3 hgs
 go_enter Tryz.func86,Tryz.ntmps86
 go_wp2_with fail
 refine (layEnter_any ⟨1,W,B⟩ m _ _ _ ⟨_,_,_,_,_,_,_,_,_,_,rfl,x0.alloc _ |>.alloc _ |>.alloc _,x1.alloc _ |>.alloc _ |>.alloc _⟩ (MatAt.mk (x2.alloc _ |>.alloc _ |>.alloc _))).mono ?_
 rw [HE.out]
 rintro e w1 ⟨rfl,hb1⟩
 have B0:=((Box.new w [.int .i64 1,.int .i64 W.rows,.int .i64 W.cols,.slice a n k,.int .i64 B.rows,.int .i64 B.cols,.slice a' n' k'] 84).alloc _ |>.alloc _).keep hb1
 have B0c:=B0.cell
 have B0f:=B0.thawed
 have B0z:=B0.lt
 have B0k:=lt_add B0z
 have B1:=((Box.new' _ (w.heap.size+1) [.int .i64 m.rows,.int .i64 m.cols,.slice a2 n2 k2] 41 (by simp)).alloc _).keep hb1
 have B1c:=B1.cell
 have B1f:=B1.thawed
 have B1z:=B1.lt
 have B1k:=lt_add B1z
 have B2:=(Box.new' _ (w.heap.size+1+1) [.int .i64 0,.int .i64 0,.slice none 0 0] 41 (by simp)).keep hb1
 have B2c:=B2.cell
 have B2f:=B2.thawed
 have B2z:=B2.lt
 have B2k:=lt_add B2z
 have hkw1:Below w.heap.size w w1:=(Below.x1 hb1)
 replace x0:=x0.keep hkw1
 replace x1:=x1.keep hkw1
 replace x2:=x2.keep hkw1
 have y0:=x0.drewN 1
 have y1:=x1.drewN 1
 have y2:=x2.drewN 1
 have hs1:=hb1.size
 simp at hs1
 go_wp2_with fail
 go_region_held3 (fun w'=>w'.cell? ⟨w.heap.size,0,none⟩=some (.int .i64 1)∧w'.cell? ⟨w.heap.size,1,none⟩=some (.int .i64 W.rows)∧w'.cell? ⟨w.heap.size,2,none⟩=some (.int .i64 W.cols)∧w'.cell? ⟨w.heap.size,3,none⟩=some (.slice a n k)∧w'.cell? ⟨w.heap.size,4,none⟩=some (.int .i64 B.rows)∧w'.cell? ⟨w.heap.size,5,none⟩=some (.int .i64 B.cols)∧w'.cell? ⟨w.heap.size,6,none⟩=some (.slice a' n' k')∧w'.cell? ⟨w.heap.size+1,0,none⟩=some (.int .i64 m.rows)∧w'.cell? ⟨w.heap.size+1,1,none⟩=some (.int .i64 m.cols)∧w'.cell? ⟨w.heap.size+1,2,none⟩=some (.slice a2 n2 k2)) (first|(exact ⟨B0.cell 0,B0.cell 1,B0.cell 2,B0.cell 3,B0.cell 4,B0.cell 5,B0.cell 6,B1.cell 0,B1.cell 1,B1.cell 2⟩)|(exact ⟨(B0.drew.keep hb2).cell 0,(B0.drew.keep hb2).cell 1,(B0.drew.keep hb2).cell 2,(B0.drew.keep hb2).cell 3,(B0.drew.keep hb2).cell 4,(B0.drew.keep hb2).cell 5,(B0.drew.keep hb2).cell 6,(B1.drew.keep hb2).cell 0,(B1.drew.keep hb2).cell 1,(B1.drew.keep hb2).cell 2⟩)|(exact ⟨D0.cell 0,D0.cell 1,D0.cell 2,D0.cell 3,D0.cell 4,D0.cell 5,D0.cell 6,D1.cell 0,D1.cell 1,D1.cell 2⟩)|(go_keep;done)) (first|(go_at_call 80;go_must (refine (of_1 _).mono ?_);go_must (rintro e w' ⟨rfl,rfl⟩))|(go_at_call 145;go_must (refine (run_1 W B m _ _ _ _ _ _ _ _ _ _ _ _ _ _ _ _ y2 y0 y1 HG.out).mono ?_);go_must (rintro e w2 ⟨v2,rfl,⟨a3,n3,k3,b3,o3,rfl,hn3,x3⟩,hb2⟩);go_must (have C2:=B2.drew.keep hb2);go_must (have D0:=((((B0.drew.keep hb2).far (a:=⟨w.heap.size+1+1,0,none⟩) (by dsimp only;omega) (.int .i64 (Lay.go ⟨1,W,B⟩ m).rows)).far (a:=⟨w.heap.size+1+1,1,none⟩) (by dsimp only;omega) (.int .i64 (Lay.go ⟨1,W,B⟩ m).cols)).far (a:=⟨w.heap.size+1+1,2,none⟩) (by dsimp only;omega) (.slice a3 n3 k3)));go_must (have D1:=((((B1.drew.keep hb2).far (a:=⟨w.heap.size+1+1,0,none⟩) (by dsimp only;omega) (.int .i64 (Lay.go ⟨1,W,B⟩ m).rows)).far (a:=⟨w.heap.size+1+1,1,none⟩) (by dsimp only;omega) (.int .i64 (Lay.go ⟨1,W,B⟩ m).cols)).far (a:=⟨w.heap.size+1+1,2,none⟩) (by dsimp only;omega) (.slice a3 n3 k3)));have C2c:=C2.cell;have C2f:=C2.thawed))
 all_goals (
  go_wp2
  exact bodyPost_ret (v:=.tuple #[.agg #[.int .i64 (Lay.go ⟨1,W,B⟩ m).rows,.int .i64 (Lay.go ⟨1,W,B⟩ m).cols,.slice a3 n3 k3],.nilIface]) (by simp [results,Tryz.results86,go_sem,C2c]) rfl ⟨_,rfl,MatNew.mk (fun h=>by have:=hn3 h;simp at this;omega) (x3.set3 (fun h=>by have:=hn3 h;simp at this;omega) _ _ _),(Below.x2 hb2 hb1)⟩)
theorem layGo_2 (W B m:Mat) (v u:Value) (w:World) (h:LayAt w v ⟨2,W,B⟩) (hu:MatAt w u m) (hf:Lay.goFault ⟨2,W,B⟩ m=0) :
  Calls Tryz.prog 86 #[v,u] w fun e w'=>∃ x,e=.returned (.tuple #[x,.nilIface])∧MatNew w.heap.size w' x (Lay.go ⟨2,W,B⟩ m)∧Below w.heap.size w w':=by
 obtain ⟨a,n,k,b,o,a',n',k',b',o',rfl,x0,x1⟩:=h
 obtain ⟨a2,n2,k2,b2,o2,rfl,x2⟩:=hu
 dsimp only at x0 x1
 obtain ⟨g1,g2,g3⟩:=Lay.goFault_ok hf
 have hgs:Goes ⟨2,W,B⟩ m:=⟨g1,g2,g3⟩
 have hE:errV (Lay.goFault ⟨2,W,B⟩ m)=.nilIface:=errV_nil hf
 have HE:=Lib.hid hE
 have hm:∀ w,(Go.method 353 199 (.agg #[]) "galley/layer.run").run Tryz.prog w=.ok (159,.agg #[]) w:=m_run_2
 have hn:∀ w,(Go.nilAhead 353 199 (.agg #[]) "galley/layer.run").run Tryz.prog w=.ok (some false) w:=n_run_2
 have HG:=Lib.hid hgs
 clear hf hE g1 g2 g3 hgs
 go_enter Tryz.func86,Tryz.ntmps86
 go_wp2_with fail
 refine (layEnter_any ⟨2,W,B⟩ m _ _ _ ⟨_,_,_,_,_,_,_,_,_,_,rfl,x0.alloc _ |>.alloc _ |>.alloc _,x1.alloc _ |>.alloc _ |>.alloc _⟩ (MatAt.mk (x2.alloc _ |>.alloc _ |>.alloc _))).mono ?_
 rw [HE.out]
 rintro e w1 ⟨rfl,hb1⟩
 have B0:=((Box.new w [.int .i64 2,.int .i64 W.rows,.int .i64 W.cols,.slice a n k,.int .i64 B.rows,.int .i64 B.cols,.slice a' n' k'] 84).alloc _ |>.alloc _).keep hb1
 have B0c:=B0.cell
 have B0f:=B0.thawed
 have B0z:=B0.lt
 have B0k:=lt_add B0z
 have B1:=((Box.new' _ (w.heap.size+1) [.int .i64 m.rows,.int .i64 m.cols,.slice a2 n2 k2] 41 (by simp)).alloc _).keep hb1
 have B1c:=B1.cell
 have B1f:=B1.thawed
 have B1z:=B1.lt
 have B1k:=lt_add B1z
 have B2:=(Box.new' _ (w.heap.size+1+1) [.int .i64 0,.int .i64 0,.slice none 0 0] 41 (by simp)).keep hb1
 have B2c:=B2.cell
 have B2f:=B2.thawed
 have B2z:=B2.lt
 have B2k:=lt_add B2z
 have hkw1:Below w.heap.size w w1:=(Below.x1 hb1)
 replace x0:=x0.keep hkw1
 replace x1:=x1.keep hkw1
 replace x2:=x2.keep hkw1
 have y0:=x0.drewN 1
 have y1:=x1.drewN 1
 have y2:=x2.drewN 1
 have hs1:=hb1.size
 simp at hs1
 go_wp2_with fail
 go_region_held3 (fun w'=>w'.cell? ⟨w.heap.size,0,none⟩=some (.int .i64 2)∧w'.cell? ⟨w.heap.size,1,none⟩=some (.int .i64 W.rows)∧w'.cell? ⟨w.heap.size,2,none⟩=some (.int .i64 W.cols)∧w'.cell? ⟨w.heap.size,3,none⟩=some (.slice a n k)∧w'.cell? ⟨w.heap.size,4,none⟩=some (.int .i64 B.rows)∧w'.cell? ⟨w.heap.size,5,none⟩=some (.int .i64 B.cols)∧w'.cell? ⟨w.heap.size,6,none⟩=some (.slice a' n' k')∧w'.cell? ⟨w.heap.size+1,0,none⟩=some (.int .i64 m.rows)∧w'.cell? ⟨w.heap.size+1,1,none⟩=some (.int .i64 m.cols)∧w'.cell? ⟨w.heap.size+1,2,none⟩=some (.slice a2 n2 k2)) (first|(exact ⟨B0.cell 0,B0.cell 1,B0.cell 2,B0.cell 3,B0.cell 4,B0.cell 5,B0.cell 6,B1.cell 0,B1.cell 1,B1.cell 2⟩)|(exact ⟨(B0.drew.keep hb2).cell 0,(B0.drew.keep hb2).cell 1,(B0.drew.keep hb2).cell 2,(B0.drew.keep hb2).cell 3,(B0.drew.keep hb2).cell 4,(B0.drew.keep hb2).cell 5,(B0.drew.keep hb2).cell 6,(B1.drew.keep hb2).cell 0,(B1.drew.keep hb2).cell 1,(B1.drew.keep hb2).cell 2⟩)|(exact ⟨D0.cell 0,D0.cell 1,D0.cell 2,D0.cell 3,D0.cell 4,D0.cell 5,D0.cell 6,D1.cell 0,D1.cell 1,D1.cell 2⟩)|(go_keep;done)) (first|(go_at_call 80;go_must (refine (of_2 _).mono ?_);go_must (rintro e w' ⟨rfl,rfl⟩))|(go_at_call 159;go_must (refine (run_2 W B m _ _ _ _ _ _ _ _ _ _ _ _ y2 HG.out).mono ?_);go_must (rintro e w2 ⟨v2,rfl,⟨a3,n3,k3,b3,o3,rfl,hn3,x3⟩,hb2⟩);go_must (have C2:=B2.drew.keep hb2);go_must (have D0:=((((B0.drew.keep hb2).far (a:=⟨w.heap.size+1+1,0,none⟩) (by dsimp only;omega) (.int .i64 (Lay.go ⟨2,W,B⟩ m).rows)).far (a:=⟨w.heap.size+1+1,1,none⟩) (by dsimp only;omega) (.int .i64 (Lay.go ⟨2,W,B⟩ m).cols)).far (a:=⟨w.heap.size+1+1,2,none⟩) (by dsimp only;omega) (.slice a3 n3 k3)));go_must (have D1:=((((B1.drew.keep hb2).far (a:=⟨w.heap.size+1+1,0,none⟩) (by dsimp only;omega) (.int .i64 (Lay.go ⟨2,W,B⟩ m).rows)).far (a:=⟨w.heap.size+1+1,1,none⟩) (by dsimp only;omega) (.int .i64 (Lay.go ⟨2,W,B⟩ m).cols)).far (a:=⟨w.heap.size+1+1,2,none⟩) (by dsimp only;omega) (.slice a3 n3 k3)));have C2c:=C2.cell;have C2f:=C2.thawed))
 all_goals (
  go_wp2
  exact bodyPost_ret (v:=.tuple #[.agg #[.int .i64 (Lay.go ⟨2,W,B⟩ m).rows,.int .i64 (Lay.go ⟨2,W,B⟩ m).cols,.slice a3 n3 k3],.nilIface]) (by simp [results,Tryz.results86,go_sem,C2c]) rfl ⟨_,rfl,MatNew.mk (fun h=>by have:=hn3 h;simp at this;omega) (x3.set3 (fun h=>by have:=hn3 h;simp at this;omega) _ _ _),(Below.x2 hb2 hb1)⟩)
theorem layGo_3 (W B m:Mat) (v u:Value) (w:World) (h:LayAt w v ⟨3,W,B⟩) (hu:MatAt w u m) (hf:Lay.goFault ⟨3,W,B⟩ m=0) :
  Calls Tryz.prog 86 #[v,u] w fun e w'=>∃ x,e=.returned (.tuple #[x,.nilIface])∧MatNew w.heap.size w' x (Lay.go ⟨3,W,B⟩ m)∧Below w.heap.size w w':=by
 obtain ⟨a,n,k,b,o,a',n',k',b',o',rfl,x0,x1⟩:=h
 obtain ⟨a2,n2,k2,b2,o2,rfl,x2⟩:=hu
 dsimp only at x0 x1
 obtain ⟨g1,g2,g3⟩:=Lay.goFault_ok hf
 have hgs:Goes ⟨3,W,B⟩ m:=⟨g1,g2,g3⟩
 have hE:errV (Lay.goFault ⟨3,W,B⟩ m)=.nilIface:=errV_nil hf
 have HE:=Lib.hid hE
 have hm:∀ w,(Go.method 353 200 (.agg #[]) "galley/layer.run").run Tryz.prog w=.ok (165,.agg #[]) w:=m_run_3
 have hn:∀ w,(Go.nilAhead 353 200 (.agg #[]) "galley/layer.run").run Tryz.prog w=.ok (some false) w:=n_run_3
 have HG:=Lib.hid hgs
 clear hf hE g1 g2 g3 hgs
 go_enter Tryz.func86,Tryz.ntmps86
 go_wp2_with fail
 refine (layEnter_any ⟨3,W,B⟩ m _ _ _ ⟨_,_,_,_,_,_,_,_,_,_,rfl,x0.alloc _ |>.alloc _ |>.alloc _,x1.alloc _ |>.alloc _ |>.alloc _⟩ (MatAt.mk (x2.alloc _ |>.alloc _ |>.alloc _))).mono ?_
 rw [HE.out]
 rintro e w1 ⟨rfl,hb1⟩
 have B0:=((Box.new w [.int .i64 3,.int .i64 W.rows,.int .i64 W.cols,.slice a n k,.int .i64 B.rows,.int .i64 B.cols,.slice a' n' k'] 84).alloc _ |>.alloc _).keep hb1
 have B0c:=B0.cell
 have B0f:=B0.thawed
 have B0z:=B0.lt
 have B0k:=lt_add B0z
 have B1:=((Box.new' _ (w.heap.size+1) [.int .i64 m.rows,.int .i64 m.cols,.slice a2 n2 k2] 41 (by simp)).alloc _).keep hb1
 have B1c:=B1.cell
 have B1f:=B1.thawed
 have B1z:=B1.lt
 have B1k:=lt_add B1z
 have B2:=(Box.new' _ (w.heap.size+1+1) [.int .i64 0,.int .i64 0,.slice none 0 0] 41 (by simp)).keep hb1
 have B2c:=B2.cell
 have B2f:=B2.thawed
 have B2z:=B2.lt
 have B2k:=lt_add B2z
 have hkw1:Below w.heap.size w w1:=(Below.x1 hb1)
 replace x0:=x0.keep hkw1
 replace x1:=x1.keep hkw1
 replace x2:=x2.keep hkw1
 have y0:=x0.drewN 1
 have y1:=x1.drewN 1
 have y2:=x2.drewN 1
 have hs1:=hb1.size
 simp at hs1
 go_wp2_with fail
 go_region_held3 (fun w'=>w'.cell? ⟨w.heap.size,0,none⟩=some (.int .i64 3)∧w'.cell? ⟨w.heap.size,1,none⟩=some (.int .i64 W.rows)∧w'.cell? ⟨w.heap.size,2,none⟩=some (.int .i64 W.cols)∧w'.cell? ⟨w.heap.size,3,none⟩=some (.slice a n k)∧w'.cell? ⟨w.heap.size,4,none⟩=some (.int .i64 B.rows)∧w'.cell? ⟨w.heap.size,5,none⟩=some (.int .i64 B.cols)∧w'.cell? ⟨w.heap.size,6,none⟩=some (.slice a' n' k')∧w'.cell? ⟨w.heap.size+1,0,none⟩=some (.int .i64 m.rows)∧w'.cell? ⟨w.heap.size+1,1,none⟩=some (.int .i64 m.cols)∧w'.cell? ⟨w.heap.size+1,2,none⟩=some (.slice a2 n2 k2)) (first|(exact ⟨B0.cell 0,B0.cell 1,B0.cell 2,B0.cell 3,B0.cell 4,B0.cell 5,B0.cell 6,B1.cell 0,B1.cell 1,B1.cell 2⟩)|(exact ⟨(B0.drew.keep hb2).cell 0,(B0.drew.keep hb2).cell 1,(B0.drew.keep hb2).cell 2,(B0.drew.keep hb2).cell 3,(B0.drew.keep hb2).cell 4,(B0.drew.keep hb2).cell 5,(B0.drew.keep hb2).cell 6,(B1.drew.keep hb2).cell 0,(B1.drew.keep hb2).cell 1,(B1.drew.keep hb2).cell 2⟩)|(exact ⟨D0.cell 0,D0.cell 1,D0.cell 2,D0.cell 3,D0.cell 4,D0.cell 5,D0.cell 6,D1.cell 0,D1.cell 1,D1.cell 2⟩)|(go_keep;done)) (first|(go_at_call 80;go_must (refine (of_3 _).mono ?_);go_must (rintro e w' ⟨rfl,rfl⟩))|(go_at_call 165;go_must (refine (run_3 W B m _ _ _ _ _ _ _ _ _ _ _ _ _ _ y2 y0 HG.out).mono ?_);go_must (rintro e w2 ⟨v2,rfl,⟨a3,n3,k3,b3,o3,rfl,hn3,x3⟩,hb2⟩);go_must (have C2:=B2.drew.keep hb2);go_must (have D0:=((((B0.drew.keep hb2).far (a:=⟨w.heap.size+1+1,0,none⟩) (by dsimp only;omega) (.int .i64 (Lay.go ⟨3,W,B⟩ m).rows)).far (a:=⟨w.heap.size+1+1,1,none⟩) (by dsimp only;omega) (.int .i64 (Lay.go ⟨3,W,B⟩ m).cols)).far (a:=⟨w.heap.size+1+1,2,none⟩) (by dsimp only;omega) (.slice a3 n3 k3)));go_must (have D1:=((((B1.drew.keep hb2).far (a:=⟨w.heap.size+1+1,0,none⟩) (by dsimp only;omega) (.int .i64 (Lay.go ⟨3,W,B⟩ m).rows)).far (a:=⟨w.heap.size+1+1,1,none⟩) (by dsimp only;omega) (.int .i64 (Lay.go ⟨3,W,B⟩ m).cols)).far (a:=⟨w.heap.size+1+1,2,none⟩) (by dsimp only;omega) (.slice a3 n3 k3)));have C2c:=C2.cell;have C2f:=C2.thawed))
 all_goals (
  go_wp2
  exact bodyPost_ret (v:=.tuple #[.agg #[.int .i64 (Lay.go ⟨3,W,B⟩ m).rows,.int .i64 (Lay.go ⟨3,W,B⟩ m).cols,.slice a3 n3 k3],.nilIface]) (by simp [results,Tryz.results86,go_sem,C2c]) rfl ⟨_,rfl,MatNew.mk (fun h=>by have:=hn3 h;simp at this;omega) (x3.set3 (fun h=>by have:=hn3 h;simp at this;omega) _ _ _),(Below.x2 hb2 hb1)⟩)
theorem layGo_4 (W B m:Mat) (v u:Value) (w:World) (h:LayAt w v ⟨4,W,B⟩) (hu:MatAt w u m) (hf:Lay.goFault ⟨4,W,B⟩ m=0) :
  Calls Tryz.prog 86 #[v,u] w fun e w'=>∃ x,e=.returned (.tuple #[x,.nilIface])∧MatNew w.heap.size w' x (Lay.go ⟨4,W,B⟩ m)∧Below w.heap.size w w':=by
 obtain ⟨a,n,k,b,o,a',n',k',b',o',rfl,x0,x1⟩:=h
 obtain ⟨a2,n2,k2,b2,o2,rfl,x2⟩:=hu
 dsimp only at x0 x1
 obtain ⟨g1,g2,g3⟩:=Lay.goFault_ok hf
 have hgs:Goes ⟨4,W,B⟩ m:=⟨g1,g2,g3⟩
 have hE:errV (Lay.goFault ⟨4,W,B⟩ m)=.nilIface:=errV_nil hf
 have HE:=Lib.hid hE
 have hm:∀ w,(Go.method 353 201 (.agg #[]) "galley/layer.run").run Tryz.prog w=.ok (169,.agg #[]) w:=m_run_4
 have hn:∀ w,(Go.nilAhead 353 201 (.agg #[]) "galley/layer.run").run Tryz.prog w=.ok (some false) w:=n_run_4
 have HG:=Lib.hid hgs
 clear hf hE g1 g2 g3 hgs
 go_enter Tryz.func86,Tryz.ntmps86
 go_wp2_with fail
 refine (layEnter_any ⟨4,W,B⟩ m _ _ _ ⟨_,_,_,_,_,_,_,_,_,_,rfl,x0.alloc _ |>.alloc _ |>.alloc _,x1.alloc _ |>.alloc _ |>.alloc _⟩ (MatAt.mk (x2.alloc _ |>.alloc _ |>.alloc _))).mono ?_
 rw [HE.out]
 rintro e w1 ⟨rfl,hb1⟩
 have B0:=((Box.new w [.int .i64 4,.int .i64 W.rows,.int .i64 W.cols,.slice a n k,.int .i64 B.rows,.int .i64 B.cols,.slice a' n' k'] 84).alloc _ |>.alloc _).keep hb1
 have B0c:=B0.cell
 have B0f:=B0.thawed
 have B0z:=B0.lt
 have B0k:=lt_add B0z
 have B1:=((Box.new' _ (w.heap.size+1) [.int .i64 m.rows,.int .i64 m.cols,.slice a2 n2 k2] 41 (by simp)).alloc _).keep hb1
 have B1c:=B1.cell
 have B1f:=B1.thawed
 have B1z:=B1.lt
 have B1k:=lt_add B1z
 have B2:=(Box.new' _ (w.heap.size+1+1) [.int .i64 0,.int .i64 0,.slice none 0 0] 41 (by simp)).keep hb1
 have B2c:=B2.cell
 have B2f:=B2.thawed
 have B2z:=B2.lt
 have B2k:=lt_add B2z
 have hkw1:Below w.heap.size w w1:=(Below.x1 hb1)
 replace x0:=x0.keep hkw1
 replace x1:=x1.keep hkw1
 replace x2:=x2.keep hkw1
 have y0:=x0.drewN 1
 have y1:=x1.drewN 1
 have y2:=x2.drewN 1
 have hs1:=hb1.size
 simp at hs1
 go_wp2_with fail
 go_region_held3 (fun w'=>w'.cell? ⟨w.heap.size,0,none⟩=some (.int .i64 4)∧w'.cell? ⟨w.heap.size,1,none⟩=some (.int .i64 W.rows)∧w'.cell? ⟨w.heap.size,2,none⟩=some (.int .i64 W.cols)∧w'.cell? ⟨w.heap.size,3,none⟩=some (.slice a n k)∧w'.cell? ⟨w.heap.size,4,none⟩=some (.int .i64 B.rows)∧w'.cell? ⟨w.heap.size,5,none⟩=some (.int .i64 B.cols)∧w'.cell? ⟨w.heap.size,6,none⟩=some (.slice a' n' k')∧w'.cell? ⟨w.heap.size+1,0,none⟩=some (.int .i64 m.rows)∧w'.cell? ⟨w.heap.size+1,1,none⟩=some (.int .i64 m.cols)∧w'.cell? ⟨w.heap.size+1,2,none⟩=some (.slice a2 n2 k2)) (first|(exact ⟨B0.cell 0,B0.cell 1,B0.cell 2,B0.cell 3,B0.cell 4,B0.cell 5,B0.cell 6,B1.cell 0,B1.cell 1,B1.cell 2⟩)|(exact ⟨(B0.drew.keep hb2).cell 0,(B0.drew.keep hb2).cell 1,(B0.drew.keep hb2).cell 2,(B0.drew.keep hb2).cell 3,(B0.drew.keep hb2).cell 4,(B0.drew.keep hb2).cell 5,(B0.drew.keep hb2).cell 6,(B1.drew.keep hb2).cell 0,(B1.drew.keep hb2).cell 1,(B1.drew.keep hb2).cell 2⟩)|(exact ⟨D0.cell 0,D0.cell 1,D0.cell 2,D0.cell 3,D0.cell 4,D0.cell 5,D0.cell 6,D1.cell 0,D1.cell 1,D1.cell 2⟩)|(go_keep;done)) (first|(go_at_call 80;go_must (refine (of_4 _).mono ?_);go_must (rintro e w' ⟨rfl,rfl⟩))|(go_at_call 169;go_must (refine (run_4 W B m _ _ _ _ _ _ _ _ _ _ _ _ _ _ y2 y1 HG.out).mono ?_);go_must (rintro e w2 ⟨v2,rfl,⟨a3,n3,k3,b3,o3,rfl,hn3,x3⟩,hb2⟩);go_must (have C2:=B2.drew.keep hb2);go_must (have D0:=((((B0.drew.keep hb2).far (a:=⟨w.heap.size+1+1,0,none⟩) (by dsimp only;omega) (.int .i64 (Lay.go ⟨4,W,B⟩ m).rows)).far (a:=⟨w.heap.size+1+1,1,none⟩) (by dsimp only;omega) (.int .i64 (Lay.go ⟨4,W,B⟩ m).cols)).far (a:=⟨w.heap.size+1+1,2,none⟩) (by dsimp only;omega) (.slice a3 n3 k3)));go_must (have D1:=((((B1.drew.keep hb2).far (a:=⟨w.heap.size+1+1,0,none⟩) (by dsimp only;omega) (.int .i64 (Lay.go ⟨4,W,B⟩ m).rows)).far (a:=⟨w.heap.size+1+1,1,none⟩) (by dsimp only;omega) (.int .i64 (Lay.go ⟨4,W,B⟩ m).cols)).far (a:=⟨w.heap.size+1+1,2,none⟩) (by dsimp only;omega) (.slice a3 n3 k3)));have C2c:=C2.cell;have C2f:=C2.thawed))
 all_goals (
  go_wp2
  exact bodyPost_ret (v:=.tuple #[.agg #[.int .i64 (Lay.go ⟨4,W,B⟩ m).rows,.int .i64 (Lay.go ⟨4,W,B⟩ m).cols,.slice a3 n3 k3],.nilIface]) (by simp [results,Tryz.results86,go_sem,C2c]) rfl ⟨_,rfl,MatNew.mk (fun h=>by have:=hn3 h;simp at this;omega) (x3.set3 (fun h=>by have:=hn3 h;simp at this;omega) _ _ _),(Below.x2 hb2 hb1)⟩)
theorem layGo_any (l:Lay) (m:Mat) (v u:Value) (w:World) (h:LayAt w v l) (hu:MatAt w u m) :
  Calls Tryz.prog 86 #[v,u] w fun e w'=>∃ x,e=.returned (.tuple #[x,errV (l.goFault m)])∧MatNew w.heap.size w' x (orNone (l.goFault m) (l.go m))∧Below w.heap.size w w':=by
 by_cases hf:l.goFault m=0
 ·rw [orNone_ok hf,errV_nil hf]
  obtain ⟨g1,g2,g3⟩:=Lay.goFault_ok hf
  obtain ⟨h1,h2,_,_,_⟩:=Lay.fault_ok g1
  obtain ⟨kd,W,B⟩:=l
  dsimp only at h1 h2
  rcases (by omega:kd=1∨kd=2∨kd=3∨kd=4) with rfl|rfl|rfl|rfl
  ·exact layGo_1 W B m v u w h hu hf
  ·exact layGo_2 W B m v u w h hu hf
  ·exact layGo_3 W B m v u w h hu hf
  ·exact layGo_4 W B m v u w h hu hf
 ·exact layGo_bad l m v u w h hu hf
end Go.Proofs.YtchngeagnlngaaaGreatDoor
end
section
namespace Go.Proofs.YtchngeagnlngaaaGreatDoor
open Go.RowKit Gal
set_option maxRecDepth 100000
set_option maxHeartbeats 2000000
def GrdNew (base:Nat) (w:World) (v:Value) (d:Grd):Prop:=∃ a n cap b o a' n' cap' b' o',v=.agg #[.int .i64 d.W.rows,.int .i64 d.W.cols,.slice a n cap,.int .i64 d.B.rows,.int .i64 d.B.cols,.slice a' n' cap'] ∧
 (0<n→base≤b)∧IntsAt w a n cap b o d.W.cells∧(0<n'→base≤b')∧IntsAt w a' n' cap' b' o' d.B.cells
theorem noInts (w:World):IntsAt w none 0 0 0 0 []:=⟨rfl,Nat.le_refl _,Nat.zero_le _,fun h=>absurd h (Nat.lt_irrefl _),fun h=>absurd h (Nat.lt_irrefl _),fun i hi=>absurd hi (Nat.not_lt_zero _)⟩
theorem noGrd (base:Nat) (w:World):GrdNew base w (.agg #[.int .i64 0,.int .i64 0,.slice none 0 0,.int .i64 0,.int .i64 0,.slice none 0 0]) Grd.none:=
 ⟨none,0,0,0,0,none,0,0,0,0,rfl,fun h=>absurd h (Nat.lt_irrefl _),noInts w,fun h=>absurd h (Nat.lt_irrefl _),noInts w⟩
structure Backs (l:Lay) (x g:Mat):Prop where
 goes:Goes l x
 mat:g.fault=0
 rows:g.rows=x.rows
 cols:g.cols=l.wide x.cols
 small:l.kind=1→x.rows≤12
theorem cf_reluB (vs:Array Value) (W:World):(callFunc 160 vs).run Tryz.prog W=.ok (.enter 160 vs) W:=by kernel_rfl
theorem cf_shiftB (vs:Array Value) (W:World):(callFunc 171 vs).run Tryz.prog W=.ok (.enter 171 vs) W:=by kernel_rfl
theorem reluBack_any (p q:Nat) (r c r' c':Int) (a a':Option Addr) (n n' k0 k1 b o b' o':Nat) (xs gs:List Int) (w:World)
  (hp:Box w p [.int .i64 r,.int .i64 c,.slice a n k0] 41) (hq:Box w q [.int .i64 r',.int .i64 c',.slice a' n' k1] 41) (hx:IntsAt w a n k0 b o xs) (hy:IntsAt w a' n' k1 b' o' gs) (i:Nat) (hi:i<n) (hi':i<n') (hi2:i≤1000000) :
  Calls Tryz.prog 160 #[.int .i64 i,.pointer (some ⟨p,0,none⟩),.pointer (some ⟨q,0,none⟩)] w fun e w'=>e=.returned (.int .i64 (if 0<ix xs i then ix gs i else 0))∧∃ n,w'=w.drewN n:=by
 have p2:=hp.cell 2
 have q2:=hq.cell 2
 obtain rfl:=hx.ptr (by omega)
 obtain rfl:=hy.ptr (by omega)
 have ca:=hx.cell _ hi
 have cb:=hy.cell _ hi'
 by_cases h:0<ix xs i
 ·rw [if_pos h]
  go_enter Tryz.func160,Tryz.ntmps160
  go_wp2
  go_ret
  exact ⟨rfl,0,rfl⟩
 ·rw [if_neg h]
  go_enter Tryz.func160,Tryz.ntmps160
  go_wp2
  go_ret
  exact ⟨rfl,0,rfl⟩
theorem shiftBack_any (p:Nat) (r c:Int) (a:Option Addr) (n k0 b o:Nat) (xs:List Int) (w:World)
  (hp:Box w p [.int .i64 r,.int .i64 c,.slice a n k0] 41) (hx:IntsAt w a n k0 b o xs) (i:Nat) (hi:i<n) (hi2:i≤1000000) :
  Calls Tryz.prog 171 #[.int .i64 i,.pointer (some ⟨p,0,none⟩)] w fun e w'=>e=.returned (.int .i64 (ix xs i))∧∃ n,w'=w.drewN n:=by
 have p2:=hp.cell 2
 obtain rfl:=hx.ptr (by omega)
 have ca:=hx.cell _ hi
 go_enter Tryz.func171,Tryz.ntmps171
 go_wp2
 go_ret
 exact ⟨rfl,0,rfl⟩
theorem same_len {x g:Mat} (hx:x.fault=0) (hg:g.fault=0) (h1:g.rows=x.rows) (h2:g.cols=x.cols):g.cells.length=x.cells.length∧x.cells.length≤288:=by
 obtain ⟨R,K,e1,e2,hR,hK,hl,_⟩:=matFault_ok hx
 obtain ⟨R',K',e3,e4,_,_,hl',_⟩:=matFault_ok hg
 obtain rfl:R=R':=by omega
 obtain rfl:K=K':=by omega
 exact ⟨by omega,by have:=Nat.mul_le_mul hR hK;omega⟩
theorem back_2 (W B x g:Mat) (a0 ag aw ab:Option Addr) (n0 k0 b0 o0 ng kg bg og nw kw nb kb:Nat) (w:World) (x0:IntsAt w a0 n0 k0 b0 o0 x.cells) (xg:IntsAt w ag ng kg bg og g.cells) (hg:Backs ⟨2,W,B⟩ x g) :
  Calls Tryz.prog 157 #[.agg #[],.agg #[.int .i64 2,.int .i64 W.rows,.int .i64 W.cols,.slice aw nw kw,.int .i64 B.rows,.int .i64 B.cols,.slice ab nb kb],.agg #[.int .i64 x.rows,.int .i64 x.cols,.slice a0 n0 k0],.agg #[.int .i64 g.rows,.int .i64 g.cols,.slice ag ng kg]] w fun e w'=>
   ∃ v d,e=.returned (.tuple #[v,d])∧MatNew w.heap.size w' v (Lay.back ⟨2,W,B⟩ x g)∧GrdNew w.heap.size w' d (Lay.grad ⟨2,W,B⟩ x g)∧Below w.heap.size w w':=by
 have hcol:g.cols=x.cols:=by rw [hg.cols];exact if_neg (by simp)
 obtain ⟨hgl,hx288⟩:=same_len hg.goes.mat hg.mat hg.rows hcol
 have hn0:=x0.len
 have hng:=xg.len
 have hbk:Lay.back ⟨2,W,B⟩ x g=⟨x.rows,x.cols,upto (fun k=>if 0<ix x.cells k then ix g.cells k else 0) n0⟩:=by
  unfold Lay.back
  rw [if_neg (by simp),if_pos rfl,hn0]
 have hgr:Lay.grad ⟨2,W,B⟩ x g=Grd.none:=by
  unfold Lay.grad
  rw [if_neg (by simp),if_pos rfl]
 rw [hbk,hgr]
 have hnn:ng=n0:=by omega
 have hn288:n0≤288:=by omega
 clear hbk hgr hcol hgl hx288 hn0 hng hg
 subst hnn
 go_enter Tryz.func157,Tryz.ntmps157
 go_wp2_with fail
 refine (each_any x.rows x.cols a0 ng k0 (by omega) 160 #[.pointer (some ⟨w.heap.size+1+1,0,none⟩),.pointer (some ⟨w.heap.size+1+1+1,0,none⟩)] (fun k=>if 0<ix x.cells k then ix g.cells k else 0) _ cf_reluB ?_).mono ?_
 ·intro i hi U hU
  exact reluBack_any _ _ _ _ _ _ _ _ _ _ _ _ _ _ _ _ x.cells g.cells U (((((Box.new' _ (w.heap.size+1+1) _ _ (by simp)).alloc _).alloc _).alloc _).keep hU) ((((Box.new' _ (w.heap.size+1+1+1) _ _ (by simp)).alloc _).alloc _).keep hU) ((x0.alloc _ |>.alloc _ |>.alloc _ |>.alloc _ |>.alloc _ |>.alloc _).keep hU) ((xg.alloc _ |>.alloc _ |>.alloc _ |>.alloc _ |>.alloc _ |>.alloc _).keep hU) i hi hi (by omega)
 ·rintro e w1 ⟨b1,rfl,hbb,hi1,hb1⟩
  have B4:=((Box.new' _ (w.heap.size+1+1+1+1) [.int .i64 0,.int .i64 0,.slice none 0 0] 41 (by simp)).alloc _).keep hb1
  have B4c:=B4.cell
  have B4f:=B4.thawed
  have B4z:=B4.lt
  have B4k:=lt_add B4z
  have B5:=(Box.new' _ (w.heap.size+1+1+1+1+1) [.int .i64 0,.int .i64 0,.slice none 0 0,.int .i64 0,.int .i64 0,.slice none 0 0] 86 (by simp)).keep hb1
  have B5c:=B5.cell
  have B5f:=B5.thawed
  have B5z:=B5.lt
  have B5k:=lt_add B5z
  simp at hbb
  go_wp2
  refine bodyPost_ret (v:=.tuple #[.agg #[.int .i64 x.rows,.int .i64 x.cols,.slice (some ⟨b1,0,none⟩) ng ng],.agg #[.int .i64 0,.int .i64 0,.slice none 0 0,.int .i64 0,.int .i64 0,.slice none 0 0]]) ?_ rfl ⟨_,_,rfl,?_,?_,?_⟩
  ·simp [results,Tryz.results157,go_sem,B4c,B5c]
  ·exact MatNew.mk (b:=b1) (off:=0) (fun _=>by omega) hi1.k
  ·exact noGrd _ _
  ·exact (Below.x1 hb1)
end Go.Proofs.YtchngeagnlngaaaGreatDoor
end
