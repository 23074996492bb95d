/- Texts joined: Grads, Batch4. -/
import Derived.Test.YtchngeagnlngaaaGreatDoorJ12
import Derived.Test.YtchngeagnlngaaaGreatDoorJ08
import Derived.Test.YtchngeagnlngaaaGreatDoorJ15
import Derived.Test.YtchngeagnlngaaaGreatDoorJ06
import Derived.Test.YtchngeagnlngaaaGreatDoorJ18
import Derived.Test.YtchngeagnlngaaaGreatDoorJ05
import Derived.Deep.RegionHeld3
set_option linter.unusedVariables false
set_option linter.unusedSimpArgs false
section
namespace Gal
open Go Go.RowKit
theorem get_of_lt {α:Type} {xs:List α} {i:Nat} (h:i<xs.length):∃ x,xs[i]?=some x:=⟨xs[i],List.getElem?_eq_getElem h⟩
theorem cell_keep {w w':World} {a:Addr} {v:Value} (hb:Below w.heap.size w w') (h:w.cell? a=some v):w'.cell? a=some v:=(hb.cell (World.block_lt_of_cell? w _ h)).trans h
theorem cells6 {w:World} {v0 v1 v2 v3 v4 v5:Value} {a b:Nat} {o p:Nat} (h0:w.cell? ⟨a,o,none⟩=some v0) (h1:w.cell? ⟨a,o+1,none⟩=some v1) (h2:w.cell? ⟨a,o+2,none⟩=some v2) (h3:w.cell? ⟨b,p,none⟩=some v3) (h4:w.cell? ⟨b,p+1,none⟩=some v4) (h5:w.cell? ⟨b,p+2,none⟩=some v5) :
  w.cell? ⟨a,o,none⟩=some v0∧w.cell? ⟨a,o+1,none⟩=some v1∧w.cell? ⟨a,o+2,none⟩=some v2∧w.cell? ⟨b,p,none⟩=some v3∧w.cell? ⟨b,p+1,none⟩=some v4∧w.cell? ⟨b,p+2,none⟩=some v5:=⟨h0,h1,h2,h3,h4,h5⟩
end Gal
namespace Go.Proofs.YtchngeagnlngaaaGreatDoor
open Go.RowKit Gal
set_option maxRecDepth 100000 in
set_option maxHeartbeats 4000000 in
theorem grads_same (ds:List Grd) (F G:Nat→Prop) (a0 a1:Option Addr) (n0 n1 k0 k1 b0 b1 o0 o1:Nat) (w:World) (h0:RowAt Form.grd w F a0 n0 k0 b0 o0 ds) (h1:RowAt Form.grd w G a1 n1 k1 b1 o1 ds) :
  Calls Tryz.prog 25 #[.slice a0 n0 k0,.slice a1 n1 k1] w fun e w'=>e=.returned (.bool true)∧Below w.heap.size w w':=by
 have m0:=h0.max
 unfold maxLen at m0
 have l0:=h0.len
 obtain rfl:n0=n1:=by rw [← l0];exact h1.len
 have hne:((n0:Int) != (n0:Int))=false:=by simp
 go_enter Tryz.func25,Tryz.ntmps25
 go_wp2
 go_loopw [5] (fun i wr=>∃ k:Nat,k≤n0∧i=.int .i64 k∧Below w.heap.size w wr) (fun i _=>n0 - (intOf i).toNat)
 case atStart=>exact ⟨0,Nat.zero_le _,rfl,Below.refl _ _⟩
 case round=>
  obtain ⟨k,hk,rfl,hbr⟩:=hrel
  by_cases hlt:k<n0
  ·have hltI:(k:Int)<(n0:Int):=by omega
   obtain rfl:=h0.ptr (by omega)
   obtain rfl:=h1.ptr (by omega)
   obtain ⟨d,hd⟩:=get_of_lt (xs:=ds) (i:=k) (by omega)
   obtain ⟨p1,p2,p3,p4,p5,p6,p7,p8,p9,p10,c0,c1,c2,c3,c4,c5,y0,y1⟩:=grd_cells (h0.keep hbr) hd
   obtain ⟨q1,q2,q3,q4,q5,q6,q7,q8,q9,q10,e0,e1,e2,e3,e4,e5,z0,z1⟩:=grd_cells (h1.keep hbr) hd
   go_wp2_with fail
   go_region_held3 (fun w'=>w'.cell? ⟨b0,o0+k*6,none⟩=some (.int .i64 d.W.rows)∧w'.cell? ⟨b0,o0+k*6+1,none⟩=some (.int .i64 d.W.cols)∧w'.cell? ⟨b0,o0+k*6+2,none⟩=some (.slice p1 p2 p3)∧w'.cell? ⟨b1,o1+k*6,none⟩=some (.int .i64 d.W.rows)∧w'.cell? ⟨b1,o1+k*6+1,none⟩=some (.int .i64 d.W.cols)∧w'.cell? ⟨b1,o1+k*6+2,none⟩=some (.slice q1 q2 q3)) (first|exact cells6 (cell_keep hb1 c0) (cell_keep hb1 c1) (cell_keep hb1 c2) (cell_keep hb1 e0) (cell_keep hb1 e1) (cell_keep hb1 e2)|exact cells6 c0 c1 c2 e0 e1 e2) ((go_at_call 51;go_must (refine (matrices_sameM d.W _ _ _ (MatAt.mk (y0.drewN _)) (MatAt.mk (z0.drewN _))).mono ?_);go_must (rintro e w1 ⟨rfl,hb1⟩)))
   have fc3:=cell_keep hb1 c3
   have fc4:=cell_keep hb1 c4
   have fc5:=cell_keep hb1 c5
   have fe3:=cell_keep hb1 e3
   have fe4:=cell_keep hb1 e4
   have fe5:=cell_keep hb1 e5
   go_wp2_with fail
   go_region_held3 (fun w'=>w'.cell? ⟨b0,o0+k*6+3,none⟩=some (.int .i64 d.B.rows)∧w'.cell? ⟨b0,o0+k*6+4,none⟩=some (.int .i64 d.B.cols)∧w'.cell? ⟨b0,o0+k*6+5,none⟩=some (.slice p6 p7 p8)∧w'.cell? ⟨b1,o1+k*6+3,none⟩=some (.int .i64 d.B.rows)∧w'.cell? ⟨b1,o1+k*6+4,none⟩=some (.int .i64 d.B.cols)∧w'.cell? ⟨b1,o1+k*6+5,none⟩=some (.slice q6 q7 q8)) (first|exact ⟨(cell_keep hb2 fc3) ,(cell_keep hb2 fc4) ,(cell_keep hb2 fc5) ,(cell_keep hb2 fe3) ,(cell_keep hb2 fe4) ,(cell_keep hb2 fe5)⟩|exact ⟨fc3 ,fc4 ,fc5 ,fe3 ,fe4 ,fe5⟩) ((go_at_call 51;go_must (refine (matrices_sameM d.B _ _ _ (MatAt.mk (show IntsAt _ p6 p7 p8 p9 p10 d.B.cells from (by first|exact y1.k1 hb1|exact y1.k))) (MatAt.mk (show IntsAt _ q6 q7 q8 q9 q10 d.B.cells from (by first|exact z1.k1 hb1|exact z1.k)))).mono ?_);go_must (rintro e w2 ⟨rfl,hb2⟩)))
   have hbq:Below w.heap.size w w2:=(by repeat (first|(with_reducible first|exact Below.refl _ _|exact hbr|refine Below.al ?_ _|refine Below.drN ?_ _|refine Below.drew ?_|refine Below.sx ?_ _|refine Below.go ?_ hb2|refine Below.go ?_ hb1)|exact Below.refl _ _|exact hbr))
   go_wp2
   go_roundw
   case rel=>exact ⟨k+1,by omega,by go_num,hbq⟩
   case measure=>simp [intOf];omega
  ·go_wp2
   go_ret
   exact ⟨rfl,hbr⟩
end Go.Proofs.YtchngeagnlngaaaGreatDoor
end
section
namespace Go.Proofs.YtchngeagnlngaaaGreatDoor
open Go.RowKit Gal Go.ChangeShapes Go.WideShapes
set_option maxRecDepth 100000
theorem opens_bat:Opens Tryz.prog Form.bat 43:=
 (Opens.two (f:=Form.mat) (g:=Form.mat) Tryz.underlying43 opens_mat opens_mat (by kernel_rfl) (by kernel_rfl) (by kernel_rfl)).as _
theorem bat_cells {w:World} {F:Nat→Prop} {a:Option Addr} {n k b o:Nat} {ds:List Bat} {i:Nat} {d:Bat} (h:RowAt Form.bat w F a n k b o ds) (hd:ds[i]?=some d) :
  ∃ a1 n1 k1 b1 o1 a2 n2 k2 b2 o2,w.cell? ⟨b,o+i*6,none⟩=some (.int .i64 d.I.rows)∧w.cell? ⟨b,o+i*6+1,none⟩=some (.int .i64 d.I.cols)∧w.cell? ⟨b,o+i*6+2,none⟩=some (.slice a1 n1 k1) ∧
   w.cell? ⟨b,o+i*6+3,none⟩=some (.int .i64 d.W.rows)∧w.cell? ⟨b,o+i*6+4,none⟩=some (.int .i64 d.W.cols)∧w.cell? ⟨b,o+i*6+5,none⟩=some (.slice a2 n2 k2)∧IntsAt w a1 n1 k1 b1 o1 d.I.cells∧IntsAt w a2 n2 k2 b2 o2 d.W.cells:=by
 obtain ⟨cs,hr,hc⟩:=h.cell i d hd
 obtain ⟨a1,n1,k1,b1,o1,a2,n2,k2,b2,o2,rfl,_,x1,_,x2⟩:=bat_reads hr
 exact ⟨a1,n1,k1,b1,o1,a2,n2,k2,b2,o2,hc 0 (by decide),hc 1 (by decide),hc 2 (by decide),hc 3 (by decide),hc 4 (by decide),hc 5 (by decide),x1,x2⟩
end Go.Proofs.YtchngeagnlngaaaGreatDoor
end
