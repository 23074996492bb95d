/- Texts joined: Lay2. -/
import Derived.Test.YtchngeagnlngaaaGreatDoorJ06
set_option linter.unusedVariables false
set_option linter.unusedSimpArgs false
section
namespace Go.Proofs.YtchngeagnlngaaaGreatDoor
open Go.RowKit Gal
def LayAt (w:World) (v:Value) (l:Lay):Prop:=∃ a n cap b o a' n' cap' b' o',v=.agg #[.int .i64 l.kind,.int .i64 l.W.rows,.int .i64 l.W.cols,.slice a n cap,.int .i64 l.B.rows,.int .i64 l.B.cols,.slice a' n' cap']∧IntsAt w a n cap b o l.W.cells∧IntsAt w a' n' cap' b' o' l.B.cells
theorem LayAt.keep {w w':World} {v:Value} {l:Lay} (h:LayAt w v l) (hb:Below w.heap.size w w'):LayAt w' v l:=by
 obtain ⟨a,n,k,b,o,a',n',k',b',o',e,x0,x1⟩:=h
 exact ⟨a,n,k,b,o,a',n',k',b',o',e,x0.keep hb,x1.keep hb⟩
theorem LayAt.alloc {w:World} {v:Value} {l:Lay} (h:LayAt w v l) (o:Obj):LayAt (w.alloc o) v l:=h.keep ((Below.refl w.heap.size w).alloc (Nat.le_refl _) o)
set_option maxRecDepth 100000
set_option maxHeartbeats 1000000
theorem m_fits_1 (w:World):(Go.method 353 196 (.agg #[]) "galley/layer.fits").run Tryz.prog w=.ok (144,.agg #[]) w:=by kernel_rfl
theorem n_fits_1 (w:World):(Go.nilAhead 353 196 (.agg #[]) "galley/layer.fits").run Tryz.prog w=.ok (some false) w:=by kernel_rfl
theorem m_fits_2 (w:World):(Go.method 353 199 (.agg #[]) "galley/layer.fits").run Tryz.prog w=.ok (158,.agg #[]) w:=by kernel_rfl
theorem n_fits_2 (w:World):(Go.nilAhead 353 199 (.agg #[]) "galley/layer.fits").run Tryz.prog w=.ok (some false) w:=by kernel_rfl
theorem m_fits_3 (w:World):(Go.method 353 200 (.agg #[]) "galley/layer.fits").run Tryz.prog w=.ok (164,.agg #[]) w:=by kernel_rfl
theorem n_fits_3 (w:World):(Go.nilAhead 353 200 (.agg #[]) "galley/layer.fits").run Tryz.prog w=.ok (some false) w:=by kernel_rfl
theorem m_fits_4 (w:World):(Go.method 353 201 (.agg #[]) "galley/layer.fits").run Tryz.prog w=.ok (168,.agg #[]) w:=by kernel_rfl
theorem n_fits_4 (w:World):(Go.nilAhead 353 201 (.agg #[]) "galley/layer.fits").run Tryz.prog w=.ok (some false) w:=by kernel_rfl
theorem layCheck_1 (W B:Mat) (v:Value) (w:World) (h:LayAt w v ⟨1,W,B⟩):Calls Tryz.prog 52 #[v] w fun e w'=>e=.returned (errV (Lay.fault ⟨1,W,B⟩))∧Below w.heap.size w w':=by
 obtain ⟨a,n,k,b,o,a',n',k',b',o',rfl,x0,x1⟩:=h
 dsimp only at x0 x1
 by_cases fw:W.fault=0
 ·by_cases fb:B.fault=0
  ·have hE0:errV (matFault W.rows W.cols W.cells)=.nilIface:=errV_nil fw
   have hE1:errV (matFault B.rows B.cols B.cells)=.nilIface:=errV_nil fb
   have hm:∀ w,(Go.method 353 196 (.agg #[]) "galley/layer.fits").run Tryz.prog w=.ok (144,.agg #[]) w:=m_fits_1
   have hn:∀ w,(Go.nilAhead 353 196 (.agg #[]) "galley/layer.fits").run Tryz.prog w=.ok (some false) w:=n_fits_1
   have hf:Lay.fault ⟨1,W,B⟩=if Lay.fits ⟨1,W,B⟩ then 0 else 2:=by
    unfold Lay.fault
    rw [if_neg (by simp),if_neg (fun h=>h fw),if_neg (fun h=>h fb)]
   by_cases ft:Lay.fits ⟨1,W,B⟩
   ·rw [hf,if_pos ft,errV_nil rfl]
    have FT:=Lib.hid ft
    clear hf ft fw fb
    go_enter Tryz.func52,Tryz.ntmps52
    go_wp2_with fail
    refine (of_1 _).mono ?_
    rintro e w' ⟨rfl,rfl⟩
    go_wp2_with fail
    refine (matCheck_any _ _ _ _ _ _ _ W.cells _ (x0.alloc _)).mono ?_
    rintro e w1 ⟨rfl,hb1⟩
    have B0:=(Box.new w [.int .i64 1,.int .i64 W.rows,.int .i64 W.cols,.slice a n k,.int .i64 B.rows,.int .i64 B.cols,.slice a' n' k'] 84).keep hb1
    have B0c:=B0.cell
    have B0f:=B0.thawed
    have B0z:=B0.lt
    have B0k:=lt_add B0z
    replace x1:=(x1.alloc _).keep hb1
    go_wp2_with fail
    refine (matCheck_any _ _ _ _ _ _ _ B.cells _ x1).mono ?_
    rintro e w2 ⟨rfl,hb2⟩
    have hkw2:Below w1.heap.size w1 w2:=(Below.x1 hb2)
    replace B0:=B0.keep hkw2
    replace B0c:=B0.cell
    replace B0f:=B0.thawed
    replace B0z:=B0.lt
    replace B0k:=lt_add B0z
    go_wp2_with fail
    refine (fits_1 ⟨1,W,B⟩ _ _ _ ⟨_,_,_,rfl⟩ ⟨_,_,_,rfl⟩ rfl).mono ?_
    rw [decide_eq_true FT.out]
    rintro e w3 ⟨rfl,hb3⟩
    go_wp2
    go_ret
    exact ⟨rfl,(by repeat (first|(with_reducible first|exact Below.refl _ _|refine Below.al ?_ _|refine Below.drN ?_ _|refine Below.drew ?_|refine Below.sx ?_ _|refine Below.go ?_ hb3|refine Below.go ?_ hb2|refine Below.go ?_ hb1)|exact Below.refl _ _))⟩
   ·rw [hf,if_neg ft,errV_err (by decide)]
    have FT:=Lib.hid ft
    clear hf ft fw fb
    go_enter Tryz.func52,Tryz.ntmps52
    go_wp2_with fail
    refine (of_1 _).mono ?_
    rintro e w' ⟨rfl,rfl⟩
    go_wp2_with fail
    refine (matCheck_any _ _ _ _ _ _ _ W.cells _ (x0.alloc _)).mono ?_
    rintro e w1 ⟨rfl,hb1⟩
    have B0:=(Box.new w [.int .i64 1,.int .i64 W.rows,.int .i64 W.cols,.slice a n k,.int .i64 B.rows,.int .i64 B.cols,.slice a' n' k'] 84).keep hb1
    have B0c:=B0.cell
    have B0f:=B0.thawed
    have B0z:=B0.lt
    have B0k:=lt_add B0z
    replace x1:=(x1.alloc _).keep hb1
    go_wp2_with fail
    refine (matCheck_any _ _ _ _ _ _ _ B.cells _ x1).mono ?_
    rintro e w2 ⟨rfl,hb2⟩
    have hkw2:Below w1.heap.size w1 w2:=(Below.x1 hb2)
    replace B0:=B0.keep hkw2
    replace B0c:=B0.cell
    replace B0f:=B0.thawed
    replace B0z:=B0.lt
    replace B0k:=lt_add B0z
    go_wp2_with fail
    refine (fits_1 ⟨1,W,B⟩ _ _ _ ⟨_,_,_,rfl⟩ ⟨_,_,_,rfl⟩ rfl).mono ?_
    rw [decide_eq_false FT.out]
    rintro e w3 ⟨rfl,hb3⟩
    go_wp2
    go_ret
    exact ⟨rfl,(by repeat (first|(with_reducible first|exact Below.refl _ _|refine Below.al ?_ _|refine Below.drN ?_ _|refine Below.drew ?_|refine Below.sx ?_ _|refine Below.go ?_ hb3|refine Below.go ?_ hb2|refine Below.go ?_ hb1)|exact Below.refl _ _))⟩
  ·have hE0:errV (matFault W.rows W.cols W.cells)=.nilIface:=errV_nil fw
   have hE1:errV (matFault B.rows B.cols B.cells)=.iface 36 (.int .i64 B.fault):=errV_err fb
   have hf:Lay.fault ⟨1,W,B⟩=B.fault:=by
    unfold Lay.fault
    rw [if_neg (by simp),if_neg (fun h=>h fw),if_pos fb]
   rw [hf,errV_err fb]
   clear hf fw fb
   go_enter Tryz.func52,Tryz.ntmps52
   go_wp2_with fail
   refine (of_1 _).mono ?_
   rintro e w' ⟨rfl,rfl⟩
   go_wp2_with fail
   refine (matCheck_any _ _ _ _ _ _ _ W.cells _ (x0.alloc _)).mono ?_
   rintro e w1 ⟨rfl,hb1⟩
   have B0:=(Box.new w [.int .i64 1,.int .i64 W.rows,.int .i64 W.cols,.slice a n k,.int .i64 B.rows,.int .i64 B.cols,.slice a' n' k'] 84).keep hb1
   have B0c:=B0.cell
   have B0f:=B0.thawed
   have B0z:=B0.lt
   have B0k:=lt_add B0z
   replace x1:=(x1.alloc _).keep hb1
   go_wp2_with fail
   refine (matCheck_any _ _ _ _ _ _ _ B.cells _ x1).mono ?_
   rintro e w2 ⟨rfl,hb2⟩
   go_wp2
   go_ret
   exact ⟨rfl,(Below.x2 hb2 hb1)⟩
 ·have hE0:errV (matFault W.rows W.cols W.cells)=.iface 36 (.int .i64 W.fault):=errV_err fw
  have hf:Lay.fault ⟨1,W,B⟩=W.fault:=by
   unfold Lay.fault
   rw [if_neg (by simp),if_pos fw]
  rw [hf,errV_err fw]
  clear hf fw
  go_enter Tryz.func52,Tryz.ntmps52
  go_wp2_with fail
  refine (of_1 _).mono ?_
  rintro e w' ⟨rfl,rfl⟩
  go_wp2_with fail
  refine (matCheck_any _ _ _ _ _ _ _ W.cells _ (x0.alloc _)).mono ?_
  rintro e w1 ⟨rfl,hb1⟩
  have B0:=(Box.new w [.int .i64 1,.int .i64 W.rows,.int .i64 W.cols,.slice a n k,.int .i64 B.rows,.int .i64 B.cols,.slice a' n' k'] 84).keep hb1
  have B0c:=B0.cell
  have B0f:=B0.thawed
  have B0z:=B0.lt
  have B0k:=lt_add B0z
  replace x1:=(x1.alloc _).keep hb1
  go_wp2
  go_ret
  exact ⟨rfl,(Below.x1 hb1)⟩
theorem layCheck_2 (W B:Mat) (v:Value) (w:World) (h:LayAt w v ⟨2,W,B⟩):Calls Tryz.prog 52 #[v] w fun e w'=>e=.returned (errV (Lay.fault ⟨2,W,B⟩))∧Below w.heap.size w w':=by
 obtain ⟨a,n,k,b,o,a',n',k',b',o',rfl,x0,x1⟩:=h
 dsimp only at x0 x1
 by_cases fw:W.fault=0
 ·by_cases fb:B.fault=0
  ·have hE0:errV (matFault W.rows W.cols W.cells)=.nilIface:=errV_nil fw
   have hE1:errV (matFault B.rows B.cols B.cells)=.nilIface:=errV_nil fb
   have hm:∀ w,(Go.method 353 199 (.agg #[]) "galley/layer.fits").run Tryz.prog w=.ok (158,.agg #[]) w:=m_fits_2
   have hn:∀ w,(Go.nilAhead 353 199 (.agg #[]) "galley/layer.fits").run Tryz.prog w=.ok (some false) w:=n_fits_2
   have hf:Lay.fault ⟨2,W,B⟩=if Lay.fits ⟨2,W,B⟩ then 0 else 2:=by
    unfold Lay.fault
    rw [if_neg (by simp),if_neg (fun h=>h fw),if_neg (fun h=>h fb)]
   by_cases ft:Lay.fits ⟨2,W,B⟩
   ·rw [hf,if_pos ft,errV_nil rfl]
    have FT:=Lib.hid ft
    clear hf ft fw fb
    go_enter Tryz.func52,Tryz.ntmps52
    go_wp2_with fail
    refine (of_2 _).mono ?_
    rintro e w' ⟨rfl,rfl⟩
    go_wp2_with fail
    refine (matCheck_any _ _ _ _ _ _ _ W.cells _ (x0.alloc _)).mono ?_
    rintro e w1 ⟨rfl,hb1⟩
    have B0:=(Box.new w [.int .i64 2,.int .i64 W.rows,.int .i64 W.cols,.slice a n k,.int .i64 B.rows,.int .i64 B.cols,.slice a' n' k'] 84).keep hb1
    have B0c:=B0.cell
    have B0f:=B0.thawed
    have B0z:=B0.lt
    have B0k:=lt_add B0z
    replace x1:=(x1.alloc _).keep hb1
    go_wp2_with fail
    refine (matCheck_any _ _ _ _ _ _ _ B.cells _ x1).mono ?_
    rintro e w2 ⟨rfl,hb2⟩
    have hkw2:Below w1.heap.size w1 w2:=(Below.x1 hb2)
    replace B0:=B0.keep hkw2
    replace B0c:=B0.cell
    replace B0f:=B0.thawed
    replace B0z:=B0.lt
    replace B0k:=lt_add B0z
    go_wp2_with fail
    refine (fits_2 ⟨2,W,B⟩ _ _ _ ⟨_,_,_,rfl⟩ ⟨_,_,_,rfl⟩ rfl).mono ?_
    rw [decide_eq_true FT.out]
    rintro e w3 ⟨rfl,hb3⟩
    go_wp2
    go_ret
    exact ⟨rfl,(by repeat (first|(with_reducible first|exact Below.refl _ _|refine Below.al ?_ _|refine Below.drN ?_ _|refine Below.drew ?_|refine Below.sx ?_ _|refine Below.go ?_ hb3|refine Below.go ?_ hb2|refine Below.go ?_ hb1)|exact Below.refl _ _))⟩
   ·rw [hf,if_neg ft,errV_err (by decide)]
    have FT:=Lib.hid ft
    clear hf ft fw fb
    go_enter Tryz.func52,Tryz.ntmps52
    go_wp2_with fail
    refine (of_2 _).mono ?_
    rintro e w' ⟨rfl,rfl⟩
    go_wp2_with fail
    refine (matCheck_any _ _ _ _ _ _ _ W.cells _ (x0.alloc _)).mono ?_
    rintro e w1 ⟨rfl,hb1⟩
    have B0:=(Box.new w [.int .i64 2,.int .i64 W.rows,.int .i64 W.cols,.slice a n k,.int .i64 B.rows,.int .i64 B.cols,.slice a' n' k'] 84).keep hb1
    have B0c:=B0.cell
    have B0f:=B0.thawed
    have B0z:=B0.lt
    have B0k:=lt_add B0z
    replace x1:=(x1.alloc _).keep hb1
    go_wp2_with fail
    refine (matCheck_any _ _ _ _ _ _ _ B.cells _ x1).mono ?_
    rintro e w2 ⟨rfl,hb2⟩
    have hkw2:Below w1.heap.size w1 w2:=(Below.x1 hb2)
    replace B0:=B0.keep hkw2
    replace B0c:=B0.cell
    replace B0f:=B0.thawed
    replace B0z:=B0.lt
    replace B0k:=lt_add B0z
    go_wp2_with fail
    refine (fits_2 ⟨2,W,B⟩ _ _ _ ⟨_,_,_,rfl⟩ ⟨_,_,_,rfl⟩ rfl).mono ?_
    rw [decide_eq_false FT.out]
    rintro e w3 ⟨rfl,hb3⟩
    go_wp2
    go_ret
    exact ⟨rfl,(by repeat (first|(with_reducible first|exact Below.refl _ _|refine Below.al ?_ _|refine Below.drN ?_ _|refine Below.drew ?_|refine Below.sx ?_ _|refine Below.go ?_ hb3|refine Below.go ?_ hb2|refine Below.go ?_ hb1)|exact Below.refl _ _))⟩
  ·have hE0:errV (matFault W.rows W.cols W.cells)=.nilIface:=errV_nil fw
   have hE1:errV (matFault B.rows B.cols B.cells)=.iface 36 (.int .i64 B.fault):=errV_err fb
   have hf:Lay.fault ⟨2,W,B⟩=B.fault:=by
    unfold Lay.fault
    rw [if_neg (by simp),if_neg (fun h=>h fw),if_pos fb]
   rw [hf,errV_err fb]
   clear hf fw fb
   go_enter Tryz.func52,Tryz.ntmps52
   go_wp2_with fail
   refine (of_2 _).mono ?_
   rintro e w' ⟨rfl,rfl⟩
   go_wp2_with fail
   refine (matCheck_any _ _ _ _ _ _ _ W.cells _ (x0.alloc _)).mono ?_
   rintro e w1 ⟨rfl,hb1⟩
   have B0:=(Box.new w [.int .i64 2,.int .i64 W.rows,.int .i64 W.cols,.slice a n k,.int .i64 B.rows,.int .i64 B.cols,.slice a' n' k'] 84).keep hb1
   have B0c:=B0.cell
   have B0f:=B0.thawed
   have B0z:=B0.lt
   have B0k:=lt_add B0z
   replace x1:=(x1.alloc _).keep hb1
   go_wp2_with fail
   refine (matCheck_any _ _ _ _ _ _ _ B.cells _ x1).mono ?_
   rintro e w2 ⟨rfl,hb2⟩
   go_wp2
   go_ret
   exact ⟨rfl,(Below.x2 hb2 hb1)⟩
 ·have hE0:errV (matFault W.rows W.cols W.cells)=.iface 36 (.int .i64 W.fault):=errV_err fw
  have hf:Lay.fault ⟨2,W,B⟩=W.fault:=by
   unfold Lay.fault
   rw [if_neg (by simp),if_pos fw]
  rw [hf,errV_err fw]
  clear hf fw
  go_enter Tryz.func52,Tryz.ntmps52
  go_wp2_with fail
  refine (of_2 _).mono ?_
  rintro e w' ⟨rfl,rfl⟩
  go_wp2_with fail
  refine (matCheck_any _ _ _ _ _ _ _ W.cells _ (x0.alloc _)).mono ?_
  rintro e w1 ⟨rfl,hb1⟩
  have B0:=(Box.new w [.int .i64 2,.int .i64 W.rows,.int .i64 W.cols,.slice a n k,.int .i64 B.rows,.int .i64 B.cols,.slice a' n' k'] 84).keep hb1
  have B0c:=B0.cell
  have B0f:=B0.thawed
  have B0z:=B0.lt
  have B0k:=lt_add B0z
  replace x1:=(x1.alloc _).keep hb1
  go_wp2
  go_ret
  exact ⟨rfl,(Below.x1 hb1)⟩
theorem layCheck_3 (W B:Mat) (v:Value) (w:World) (h:LayAt w v ⟨3,W,B⟩):Calls Tryz.prog 52 #[v] w fun e w'=>e=.returned (errV (Lay.fault ⟨3,W,B⟩))∧Below w.heap.size w w':=by
 obtain ⟨a,n,k,b,o,a',n',k',b',o',rfl,x0,x1⟩:=h
 dsimp only at x0 x1
 by_cases fw:W.fault=0
 ·by_cases fb:B.fault=0
  ·have hE0:errV (matFault W.rows W.cols W.cells)=.nilIface:=errV_nil fw
   have hE1:errV (matFault B.rows B.cols B.cells)=.nilIface:=errV_nil fb
   have hm:∀ w,(Go.method 353 200 (.agg #[]) "galley/layer.fits").run Tryz.prog w=.ok (164,.agg #[]) w:=m_fits_3
   have hn:∀ w,(Go.nilAhead 353 200 (.agg #[]) "galley/layer.fits").run Tryz.prog w=.ok (some false) w:=n_fits_3
   have hf:Lay.fault ⟨3,W,B⟩=if Lay.fits ⟨3,W,B⟩ then 0 else 2:=by
    unfold Lay.fault
    rw [if_neg (by simp),if_neg (fun h=>h fw),if_neg (fun h=>h fb)]
   by_cases ft:Lay.fits ⟨3,W,B⟩
   ·rw [hf,if_pos ft,errV_nil rfl]
    have FT:=Lib.hid ft
    clear hf ft fw fb
    go_enter Tryz.func52,Tryz.ntmps52
    go_wp2_with fail
    refine (of_3 _).mono ?_
    rintro e w' ⟨rfl,rfl⟩
    go_wp2_with fail
    refine (matCheck_any _ _ _ _ _ _ _ W.cells _ (x0.alloc _)).mono ?_
    rintro e w1 ⟨rfl,hb1⟩
    have B0:=(Box.new w [.int .i64 3,.int .i64 W.rows,.int .i64 W.cols,.slice a n k,.int .i64 B.rows,.int .i64 B.cols,.slice a' n' k'] 84).keep hb1
    have B0c:=B0.cell
    have B0f:=B0.thawed
    have B0z:=B0.lt
    have B0k:=lt_add B0z
    replace x1:=(x1.alloc _).keep hb1
    go_wp2_with fail
    refine (matCheck_any _ _ _ _ _ _ _ B.cells _ x1).mono ?_
    rintro e w2 ⟨rfl,hb2⟩
    have hkw2:Below w1.heap.size w1 w2:=(Below.x1 hb2)
    replace B0:=B0.keep hkw2
    replace B0c:=B0.cell
    replace B0f:=B0.thawed
    replace B0z:=B0.lt
    replace B0k:=lt_add B0z
    go_wp2_with fail
    refine (fits_3 ⟨3,W,B⟩ _ _ _ ⟨_,_,_,rfl⟩ ⟨_,_,_,rfl⟩ rfl).mono ?_
    rw [decide_eq_true FT.out]
    rintro e w3 ⟨rfl,hb3⟩
    go_wp2
    go_ret
    exact ⟨rfl,(by repeat (first|(with_reducible first|exact Below.refl _ _|refine Below.al ?_ _|refine Below.drN ?_ _|refine Below.drew ?_|refine Below.sx ?_ _|refine Below.go ?_ hb3|refine Below.go ?_ hb2|refine Below.go ?_ hb1)|exact Below.refl _ _))⟩
   ·rw [hf,if_neg ft,errV_err (by decide)]
    have FT:=Lib.hid ft
    clear hf ft fw fb
    go_enter Tryz.func52,Tryz.ntmps52
    go_wp2_with fail
    refine (of_3 _).mono ?_
    rintro e w' ⟨rfl,rfl⟩
    go_wp2_with fail
    refine (matCheck_any _ _ _ _ _ _ _ W.cells _ (x0.alloc _)).mono ?_
    rintro e w1 ⟨rfl,hb1⟩
    have B0:=(Box.new w [.int .i64 3,.int .i64 W.rows,.int .i64 W.cols,.slice a n k,.int .i64 B.rows,.int .i64 B.cols,.slice a' n' k'] 84).keep hb1
    have B0c:=B0.cell
    have B0f:=B0.thawed
    have B0z:=B0.lt
    have B0k:=lt_add B0z
    replace x1:=(x1.alloc _).keep hb1
    go_wp2_with fail
    refine (matCheck_any _ _ _ _ _ _ _ B.cells _ x1).mono ?_
    rintro e w2 ⟨rfl,hb2⟩
    have hkw2:Below w1.heap.size w1 w2:=(Below.x1 hb2)
    replace B0:=B0.keep hkw2
    replace B0c:=B0.cell
    replace B0f:=B0.thawed
    replace B0z:=B0.lt
    replace B0k:=lt_add B0z
    go_wp2_with fail
    refine (fits_3 ⟨3,W,B⟩ _ _ _ ⟨_,_,_,rfl⟩ ⟨_,_,_,rfl⟩ rfl).mono ?_
    rw [decide_eq_false FT.out]
    rintro e w3 ⟨rfl,hb3⟩
    go_wp2
    go_ret
    exact ⟨rfl,(by repeat (first|(with_reducible first|exact Below.refl _ _|refine Below.al ?_ _|refine Below.drN ?_ _|refine Below.drew ?_|refine Below.sx ?_ _|refine Below.go ?_ hb3|refine Below.go ?_ hb2|refine Below.go ?_ hb1)|exact Below.refl _ _))⟩
  ·have hE0:errV (matFault W.rows W.cols W.cells)=.nilIface:=errV_nil fw
   have hE1:errV (matFault B.rows B.cols B.cells)=.iface 36 (.int .i64 B.fault):=errV_err fb
   have hf:Lay.fault ⟨3,W,B⟩=B.fault:=by
    unfold Lay.fault
    rw [if_neg (by simp),if_neg (fun h=>h fw),if_pos fb]
   rw [hf,errV_err fb]
   clear hf fw fb
   go_enter Tryz.func52,Tryz.ntmps52
   go_wp2_with fail
   refine (of_3 _).mono ?_
   rintro e w' ⟨rfl,rfl⟩
   go_wp2_with fail
   refine (matCheck_any _ _ _ _ _ _ _ W.cells _ (x0.alloc _)).mono ?_
   rintro e w1 ⟨rfl,hb1⟩
   have B0:=(Box.new w [.int .i64 3,.int .i64 W.rows,.int .i64 W.cols,.slice a n k,.int .i64 B.rows,.int .i64 B.cols,.slice a' n' k'] 84).keep hb1
   have B0c:=B0.cell
   have B0f:=B0.thawed
   have B0z:=B0.lt
   have B0k:=lt_add B0z
   replace x1:=(x1.alloc _).keep hb1
   go_wp2_with fail
   refine (matCheck_any _ _ _ _ _ _ _ B.cells _ x1).mono ?_
   rintro e w2 ⟨rfl,hb2⟩
   go_wp2
   go_ret
   exact ⟨rfl,(Below.x2 hb2 hb1)⟩
 ·have hE0:errV (matFault W.rows W.cols W.cells)=.iface 36 (.int .i64 W.fault):=errV_err fw
  have hf:Lay.fault ⟨3,W,B⟩=W.fault:=by
   unfold Lay.fault
   rw [if_neg (by simp),if_pos fw]
  rw [hf,errV_err fw]
  clear hf fw
  go_enter Tryz.func52,Tryz.ntmps52
  go_wp2_with fail
  refine (of_3 _).mono ?_
  rintro e w' ⟨rfl,rfl⟩
  go_wp2_with fail
  refine (matCheck_any _ _ _ _ _ _ _ W.cells _ (x0.alloc _)).mono ?_
  rintro e w1 ⟨rfl,hb1⟩
  have B0:=(Box.new w [.int .i64 3,.int .i64 W.rows,.int .i64 W.cols,.slice a n k,.int .i64 B.rows,.int .i64 B.cols,.slice a' n' k'] 84).keep hb1
  have B0c:=B0.cell
  have B0f:=B0.thawed
  have B0z:=B0.lt
  have B0k:=lt_add B0z
  replace x1:=(x1.alloc _).keep hb1
  go_wp2
  go_ret
  exact ⟨rfl,(Below.x1 hb1)⟩
theorem layCheck_4 (W B:Mat) (v:Value) (w:World) (h:LayAt w v ⟨4,W,B⟩):Calls Tryz.prog 52 #[v] w fun e w'=>e=.returned (errV (Lay.fault ⟨4,W,B⟩))∧Below w.heap.size w w':=by
 obtain ⟨a,n,k,b,o,a',n',k',b',o',rfl,x0,x1⟩:=h
 dsimp only at x0 x1
 by_cases fw:W.fault=0
 ·by_cases fb:B.fault=0
  ·have hE0:errV (matFault W.rows W.cols W.cells)=.nilIface:=errV_nil fw
   have hE1:errV (matFault B.rows B.cols B.cells)=.nilIface:=errV_nil fb
   have hm:∀ w,(Go.method 353 201 (.agg #[]) "galley/layer.fits").run Tryz.prog w=.ok (168,.agg #[]) w:=m_fits_4
   have hn:∀ w,(Go.nilAhead 353 201 (.agg #[]) "galley/layer.fits").run Tryz.prog w=.ok (some false) w:=n_fits_4
   have hf:Lay.fault ⟨4,W,B⟩=if Lay.fits ⟨4,W,B⟩ then 0 else 2:=by
    unfold Lay.fault
    rw [if_neg (by simp),if_neg (fun h=>h fw),if_neg (fun h=>h fb)]
   by_cases ft:Lay.fits ⟨4,W,B⟩
   ·rw [hf,if_pos ft,errV_nil rfl]
    have FT:=Lib.hid ft
    clear hf ft fw fb
    go_enter Tryz.func52,Tryz.ntmps52
    go_wp2_with fail
    refine (of_4 _).mono ?_
    rintro e w' ⟨rfl,rfl⟩
    go_wp2_with fail
    refine (matCheck_any _ _ _ _ _ _ _ W.cells _ (x0.alloc _)).mono ?_
    rintro e w1 ⟨rfl,hb1⟩
    have B0:=(Box.new w [.int .i64 4,.int .i64 W.rows,.int .i64 W.cols,.slice a n k,.int .i64 B.rows,.int .i64 B.cols,.slice a' n' k'] 84).keep hb1
    have B0c:=B0.cell
    have B0f:=B0.thawed
    have B0z:=B0.lt
    have B0k:=lt_add B0z
    replace x1:=(x1.alloc _).keep hb1
    go_wp2_with fail
    refine (matCheck_any _ _ _ _ _ _ _ B.cells _ x1).mono ?_
    rintro e w2 ⟨rfl,hb2⟩
    have hkw2:Below w1.heap.size w1 w2:=(Below.x1 hb2)
    replace B0:=B0.keep hkw2
    replace B0c:=B0.cell
    replace B0f:=B0.thawed
    replace B0z:=B0.lt
    replace B0k:=lt_add B0z
    go_wp2_with fail
    refine (fits_4 ⟨4,W,B⟩ _ _ _ ⟨_,_,_,rfl⟩ ⟨_,_,_,rfl⟩ rfl).mono ?_
    rw [decide_eq_true FT.out]
    rintro e w3 ⟨rfl,hb3⟩
    go_wp2
    go_ret
    exact ⟨rfl,(by repeat (first|(with_reducible first|exact Below.refl _ _|refine Below.al ?_ _|refine Below.drN ?_ _|refine Below.drew ?_|refine Below.sx ?_ _|refine Below.go ?_ hb3|refine Below.go ?_ hb2|refine Below.go ?_ hb1)|exact Below.refl _ _))⟩
   ·rw [hf,if_neg ft,errV_err (by decide)]
    have FT:=Lib.hid ft
    clear hf ft fw fb
    go_enter Tryz.func52,Tryz.ntmps52
    go_wp2_with fail
    refine (of_4 _).mono ?_
    rintro e w' ⟨rfl,rfl⟩
    go_wp2_with fail
    refine (matCheck_any _ _ _ _ _ _ _ W.cells _ (x0.alloc _)).mono ?_
    rintro e w1 ⟨rfl,hb1⟩
    have B0:=(Box.new w [.int .i64 4,.int .i64 W.rows,.int .i64 W.cols,.slice a n k,.int .i64 B.rows,.int .i64 B.cols,.slice a' n' k'] 84).keep hb1
    have B0c:=B0.cell
    have B0f:=B0.thawed
    have B0z:=B0.lt
    have B0k:=lt_add B0z
    replace x1:=(x1.alloc _).keep hb1
    go_wp2_with fail
    refine (matCheck_any _ _ _ _ _ _ _ B.cells _ x1).mono ?_
    rintro e w2 ⟨rfl,hb2⟩
    have hkw2:Below w1.heap.size w1 w2:=(Below.x1 hb2)
    replace B0:=B0.keep hkw2
    replace B0c:=B0.cell
    replace B0f:=B0.thawed
    replace B0z:=B0.lt
    replace B0k:=lt_add B0z
    go_wp2_with fail
    refine (fits_4 ⟨4,W,B⟩ _ _ _ ⟨_,_,_,rfl⟩ ⟨_,_,_,rfl⟩ rfl).mono ?_
    rw [decide_eq_false FT.out]
    rintro e w3 ⟨rfl,hb3⟩
    go_wp2
    go_ret
    exact ⟨rfl,(by repeat (first|(with_reducible first|exact Below.refl _ _|refine Below.al ?_ _|refine Below.drN ?_ _|refine Below.drew ?_|refine Below.sx ?_ _|refine Below.go ?_ hb3|refine Below.go ?_ hb2|refine Below.go ?_ hb1)|exact Below.refl _ _))⟩
  ·have hE0:errV (matFault W.rows W.cols W.cells)=.nilIface:=errV_nil fw
   have hE1:errV (matFault B.rows B.cols B.cells)=.iface 36 (.int .i64 B.fault):=errV_err fb
   have hf:Lay.fault ⟨4,W,B⟩=B.fault:=by
    unfold Lay.fault
    rw [if_neg (by simp),if_neg (fun h=>h fw),if_pos fb]
   rw [hf,errV_err fb]
   clear hf fw fb
   go_enter Tryz.func52,Tryz.ntmps52
   go_wp2_with fail
   refine (of_4 _).mono ?_
   rintro e w' ⟨rfl,rfl⟩
   go_wp2_with fail
   refine (matCheck_any _ _ _ _ _ _ _ W.cells _ (x0.alloc _)).mono ?_
   rintro e w1 ⟨rfl,hb1⟩
   have B0:=(Box.new w [.int .i64 4,.int .i64 W.rows,.int .i64 W.cols,.slice a n k,.int .i64 B.rows,.int .i64 B.cols,.slice a' n' k'] 84).keep hb1
   have B0c:=B0.cell
   have B0f:=B0.thawed
   have B0z:=B0.lt
   have B0k:=lt_add B0z
   replace x1:=(x1.alloc _).keep hb1
   go_wp2_with fail
   refine (matCheck_any _ _ _ _ _ _ _ B.cells _ x1).mono ?_
   rintro e w2 ⟨rfl,hb2⟩
   go_wp2
   go_ret
   exact ⟨rfl,(Below.x2 hb2 hb1)⟩
 ·have hE0:errV (matFault W.rows W.cols W.cells)=.iface 36 (.int .i64 W.fault):=errV_err fw
  have hf:Lay.fault ⟨4,W,B⟩=W.fault:=by
   unfold Lay.fault
   rw [if_neg (by simp),if_pos fw]
  rw [hf,errV_err fw]
  clear hf fw
  go_enter Tryz.func52,Tryz.ntmps52
  go_wp2_with fail
  refine (of_4 _).mono ?_
  rintro e w' ⟨rfl,rfl⟩
  go_wp2_with fail
  refine (matCheck_any _ _ _ _ _ _ _ W.cells _ (x0.alloc _)).mono ?_
  rintro e w1 ⟨rfl,hb1⟩
  have B0:=(Box.new w [.int .i64 4,.int .i64 W.rows,.int .i64 W.cols,.slice a n k,.int .i64 B.rows,.int .i64 B.cols,.slice a' n' k'] 84).keep hb1
  have B0c:=B0.cell
  have B0f:=B0.thawed
  have B0z:=B0.lt
  have B0k:=lt_add B0z
  replace x1:=(x1.alloc _).keep hb1
  go_wp2
  go_ret
  exact ⟨rfl,(Below.x1 hb1)⟩
theorem layCheck_any (l:Lay) (v:Value) (w:World) (h:LayAt w v l):Calls Tryz.prog 52 #[v] w fun e w'=>e=.returned (errV l.fault)∧Below w.heap.size w w':=by
 obtain ⟨kd,W,B⟩:=l
 by_cases h1:kd=1
 ·subst h1;exact layCheck_1 W B v w h
 ·by_cases h2:kd=2
  ·subst h2;exact layCheck_2 W B v w h
  ·by_cases h3:kd=3
   ·subst h3;exact layCheck_3 W B v w h
   ·by_cases h4:kd=4
    ·subst h4;exact layCheck_4 W B v w h
    ·have hf:Lay.fault ⟨kd,W,B⟩=1:=by
      unfold Lay.fault
      rw [if_pos (by dsimp only;omega)]
     rw [hf,errV_err (by decide)]
     obtain ⟨a,n,k,b,o,a',n',k',b',o',rfl,x0,x1⟩:=h
     have ho:(if kd=1 then Value.iface 196 (.agg #[]) else if kd=2 then .iface 199 (.agg #[]) else if kd=3 then .iface 200 (.agg #[]) else if kd=4 then .iface 201 (.agg #[]) else .nilIface)=.nilIface:=by
      rw [if_neg h1,if_neg h2,if_neg h3,if_neg h4]
     have HO:=Lib.hid ho
     clear hf ho h1 h2 h3 h4
     go_enter Tryz.func52,Tryz.ntmps52
     go_wp2_with fail
     refine (of_any kd _).mono ?_
     rw [HO.out]
     rintro e w' ⟨rfl,rfl⟩
     go_wp2
     go_ret
     exact ⟨rfl,Below.x0⟩
end Go.Proofs.YtchngeagnlngaaaGreatDoor
end
