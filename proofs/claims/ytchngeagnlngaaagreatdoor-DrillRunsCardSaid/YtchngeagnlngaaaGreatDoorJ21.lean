/- Texts joined: RLay2. -/
import Derived.Test.YtchngeagnlngaaaGreatDoorJ20
set_option linter.unusedVariables false
set_option linter.unusedSimpArgs false
set_option linter.unusedSectionVars false
section
namespace Gal
def Lay.wideOr (l:Lay) (n:Int):Int:=if l.takes n then l.wide n else -1
theorem Lay.wideOr_nn {l:Lay} {x:Mat} (h:l.fault=0) (hx:x.fault=0):0≤l.wide x.cols:=by
 obtain ⟨_,_,fw,_,_⟩:=Lay.fault_ok h
 obtain ⟨R,K,_,e,_⟩:=matFault_ok fw
 obtain ⟨R',K',_,e',_⟩:=matFault_ok hx
 unfold Lay.wide
 by_cases h1:l.kind=1
 ·rw [if_pos h1];omega
 ·rw [if_neg h1];omega
end Gal
namespace Go.Proofs.YtchngeagnlngaaaGreatDoor
open Go.RowKit Gal
set_option maxRecDepth 100000
set_option maxHeartbeats 2000000
theorem refWideOf_any (l:Lay) (v:Value) (i:Int) (w:World) (h:LayAt w v l):Calls Tryz.prog 71 #[v,.int .i64 i] w fun e w'=>e=.returned (.int .i64 (l.wideOr i))∧Below w.heap.size w w':=by
 obtain ⟨a,n,k,b,o,a',n',k',b',o',rfl,x0,x1⟩:=h
 obtain ⟨kd,W,B⟩:=l
 dsimp only at x0 x1 ⊢
 by_cases h1:kd=1
 ·subst h1
  by_cases h2:i=W.rows
  ·rw [show Lay.wideOr ⟨1,W,B⟩ i=W.cols by simp [Lay.wideOr,Lay.takes,Lay.wide,h2]]
   have q:(i != W.rows)=false:=by simp [h2]
   clear h2
   go_enter Tryz.func71,Tryz.ntmps71
   go_wp2
   go_ret
   exact ⟨rfl,Below.x0⟩
  ·rw [show Lay.wideOr ⟨1,W,B⟩ i = -1 by simp [Lay.wideOr,Lay.takes,Lay.wide,h2]]
   have q:(i != W.rows)=true:=by simp [h2]
   clear h2
   go_enter Tryz.func71,Tryz.ntmps71
   go_wp2
   go_ret
   exact ⟨rfl,Below.x0⟩
 ·have q1:(kd == 1)=false:=by simp [h1]
  by_cases h4:kd=4
  ·subst h4
   by_cases h2:i=B.cols
   ·rw [show Lay.wideOr ⟨4,W,B⟩ i=i by simp [Lay.wideOr,Lay.takes,Lay.wide,h2]]
    have q:(i != B.cols)=false:=by simp [h2]
    clear h2 h1
    go_enter Tryz.func71,Tryz.ntmps71
    go_wp2
    go_ret
    exact ⟨rfl,Below.x0⟩
   ·rw [show Lay.wideOr ⟨4,W,B⟩ i = -1 by simp [Lay.wideOr,Lay.takes,Lay.wide,h2]]
    have q:(i != B.cols)=true:=by simp [h2]
    clear h2 h1
    go_enter Tryz.func71,Tryz.ntmps71
    go_wp2
    go_ret
    exact ⟨rfl,Below.x0⟩
  ·rw [show Lay.wideOr ⟨kd,W,B⟩ i=i by simp [Lay.wideOr,Lay.takes,Lay.wide,h1,h4]]
   have q4:(kd == 4)=false:=by simp [h4]
   clear h1 h4
   go_enter Tryz.func71,Tryz.ntmps71
   go_wp2
   go_ret
   exact ⟨rfl,Below.x0⟩
theorem refGoFault_any (l:Lay) (x:Mat) (v u:Value) (w:World) (h:LayAt w v l) (hu:MatAt w u x) :
  Calls Tryz.prog 72 #[v,u] w fun e w'=>e=.returned (.int .i64 (l.goFault x))∧Below w.heap.size w w':=by
 obtain ⟨a,n,k,b,o,a',n',k',b',o',rfl,x0,x1⟩:=h
 obtain ⟨a2,n2,k2,b2,o2,rfl,x2⟩:=hu
 by_cases hl:l.fault=0
 ·have HL:=Lib.hid hl
  by_cases hx:x.fault=0
  ·have hnn:=Lay.wideOr_nn hl hx
   have HX:=Lib.hid hx
   have HG:Hid (l.goFault x=if l.takes x.cols then 0 else 2):=Lib.hid (by unfold Lay.goFault;rw [if_neg (by simp [hl]),if_neg (by simp [hx])])
   clear hl hx
   rw [HG.out]
   by_cases ht:l.takes x.cols
   ·rw [if_pos ht]
    have HW:Hid (l.wideOr x.cols=l.wide x.cols):=Lib.hid (if_pos ht)
    clear ht
    go_enter Tryz.func72,Tryz.ntmps72
    go_wp2_with fail
    refine (refLayerFault_any l _ _ ⟨_,_,_,_,_,_,_,_,_,_,rfl,x0.alloc _ |>.alloc _,x1.alloc _ |>.alloc _⟩).mono ?_
    rw [HL.out]
    rintro e w1 ⟨rfl,hb1⟩
    have B0:=((show Box _ w.heap.size [.int .i64 l.kind,.int .i64 l.W.rows,.int .i64 l.W.cols,.slice a n k,.int .i64 l.B.rows,.int .i64 l.B.cols,.slice a' n' k'] 84 from Box.x0)).keep hb1
    have B0c:=B0.cell
    have B0f:=B0.thawed
    have B0z:=B0.lt
    have B0k:=lt_add B0z
    have B1:=((show Box _ (w.heap.size+1) [.int .i64 x.rows,.int .i64 x.cols,.slice a2 n2 k2] 41 from Box.x0)).keep hb1
    have B1c:=B1.cell
    have B1f:=B1.thawed
    have B1z:=B1.lt
    have B1k:=lt_add B1z
    have hkw1:Below w.heap.size w w1:=(Below.x1 hb1)
    replace x0:=x0.keep hkw1
    replace x1:=x1.keep hkw1
    replace x2:=x2.keep hkw1
    have hsw1:=hkw1.size
    go_wp2_with fail
    refine (refMatFault_any x _ _ (MatAt.mk x2)).mono ?_
    rw [HX.out]
    rintro e w2 ⟨rfl,hb2⟩
    have hkw2:Below w1.heap.size w1 w2:=(Below.x1 hb2)
    replace B0:=B0.keep hkw2
    replace B0c:=B0.cell
    replace B0f:=B0.thawed
    replace B0z:=B0.lt
    replace B0k:=lt_add B0z
    replace B1:=B1.keep hkw2
    replace B1c:=B1.cell
    replace B1f:=B1.thawed
    replace B1z:=B1.lt
    replace B1k:=lt_add B1z
    replace x0:=x0.keep hkw2
    replace x1:=x1.keep hkw2
    have hsw2:=hkw2.size
    go_wp2_with fail
    refine (refWideOf_any l _ _ _ ⟨_,_,_,_,_,_,_,_,_,_,rfl,x0,x1⟩).mono ?_
    rw [HW.out]
    rintro e w3 ⟨rfl,hb3⟩
    go_wp2
    go_ret
    exact ⟨rfl,(by repeat (first|(with_reducible first|exact Below.refl _ _|refine Below.al ?_ _|refine Below.drN ?_ _|refine Below.drew ?_|refine Below.sx ?_ _|refine Below.go ?_ hb3|refine Below.go ?_ hb2|refine Below.go ?_ hb1)|exact Below.refl _ _))⟩
   ·rw [if_neg ht]
    have HW:Hid (l.wideOr x.cols = -1):=Lib.hid (if_neg ht)
    clear ht
    go_enter Tryz.func72,Tryz.ntmps72
    go_wp2_with fail
    refine (refLayerFault_any l _ _ ⟨_,_,_,_,_,_,_,_,_,_,rfl,x0.alloc _ |>.alloc _,x1.alloc _ |>.alloc _⟩).mono ?_
    rw [HL.out]
    rintro e w1 ⟨rfl,hb1⟩
    have B0:=((show Box _ w.heap.size [.int .i64 l.kind,.int .i64 l.W.rows,.int .i64 l.W.cols,.slice a n k,.int .i64 l.B.rows,.int .i64 l.B.cols,.slice a' n' k'] 84 from Box.x0)).keep hb1
    have B0c:=B0.cell
    have B0f:=B0.thawed
    have B0z:=B0.lt
    have B0k:=lt_add B0z
    have B1:=((show Box _ (w.heap.size+1) [.int .i64 x.rows,.int .i64 x.cols,.slice a2 n2 k2] 41 from Box.x0)).keep hb1
    have B1c:=B1.cell
    have B1f:=B1.thawed
    have B1z:=B1.lt
    have B1k:=lt_add B1z
    have hkw1:Below w.heap.size w w1:=(Below.x1 hb1)
    replace x0:=x0.keep hkw1
    replace x1:=x1.keep hkw1
    replace x2:=x2.keep hkw1
    have hsw1:=hkw1.size
    go_wp2_with fail
    refine (refMatFault_any x _ _ (MatAt.mk x2)).mono ?_
    rw [HX.out]
    rintro e w2 ⟨rfl,hb2⟩
    have hkw2:Below w1.heap.size w1 w2:=(Below.x1 hb2)
    replace B0:=B0.keep hkw2
    replace B0c:=B0.cell
    replace B0f:=B0.thawed
    replace B0z:=B0.lt
    replace B0k:=lt_add B0z
    replace B1:=B1.keep hkw2
    replace B1c:=B1.cell
    replace B1f:=B1.thawed
    replace B1z:=B1.lt
    replace B1k:=lt_add B1z
    replace x0:=x0.keep hkw2
    replace x1:=x1.keep hkw2
    have hsw2:=hkw2.size
    go_wp2_with fail
    refine (refWideOf_any l _ _ _ ⟨_,_,_,_,_,_,_,_,_,_,rfl,x0,x1⟩).mono ?_
    rw [HW.out]
    rintro e w3 ⟨rfl,hb3⟩
    go_wp2
    go_ret
    exact ⟨rfl,(by repeat (first|(with_reducible first|exact Below.refl _ _|refine Below.al ?_ _|refine Below.drN ?_ _|refine Below.drew ?_|refine Below.sx ?_ _|refine Below.go ?_ hb3|refine Below.go ?_ hb2|refine Below.go ?_ hb1)|exact Below.refl _ _))⟩
  ·have HG:Hid (l.goFault x=x.fault):=Lib.hid (by unfold Lay.goFault;rw [if_neg (by simp [hl]),if_pos hx])
   have q:(x.fault != 0)=true:=by simp [hx]
   clear hl hx
   rw [HG.out]
   go_enter Tryz.func72,Tryz.ntmps72
   go_wp2_with fail
   refine (refLayerFault_any l _ _ ⟨_,_,_,_,_,_,_,_,_,_,rfl,x0.alloc _ |>.alloc _,x1.alloc _ |>.alloc _⟩).mono ?_
   rw [HL.out]
   rintro e w1 ⟨rfl,hb1⟩
   have B0:=((show Box _ w.heap.size [.int .i64 l.kind,.int .i64 l.W.rows,.int .i64 l.W.cols,.slice a n k,.int .i64 l.B.rows,.int .i64 l.B.cols,.slice a' n' k'] 84 from Box.x0)).keep hb1
   have B0c:=B0.cell
   have B0f:=B0.thawed
   have B0z:=B0.lt
   have B0k:=lt_add B0z
   have B1:=((show Box _ (w.heap.size+1) [.int .i64 x.rows,.int .i64 x.cols,.slice a2 n2 k2] 41 from Box.x0)).keep hb1
   have B1c:=B1.cell
   have B1f:=B1.thawed
   have B1z:=B1.lt
   have B1k:=lt_add B1z
   have hkw1:Below w.heap.size w w1:=(Below.x1 hb1)
   replace x2:=x2.keep hkw1
   have hsw1:=hkw1.size
   go_wp2_with fail
   refine (refMatFault_any x _ _ (MatAt.mk x2)).mono ?_
   rintro e w2 ⟨rfl,hb2⟩
   go_wp2
   go_ret
   exact ⟨rfl,(Below.x2 hb2 hb1)⟩
 ·have HG:Hid (l.goFault x=l.fault):=Lib.hid (by unfold Lay.goFault;rw [if_pos hl])
  have q:(l.fault != 0)=true:=by simp [hl]
  have q1:(l.fault == 0)=false:=by simp [hl]
  clear hl
  rw [HG.out]
  go_enter Tryz.func72,Tryz.ntmps72
  go_wp2_with fail
  refine (refLayerFault_any l _ _ ⟨_,_,_,_,_,_,_,_,_,_,rfl,x0.alloc _ |>.alloc _,x1.alloc _ |>.alloc _⟩).mono ?_
  rintro e w1 ⟨rfl,hb1⟩
  go_wp2
  go_ret
  exact ⟨rfl,(Below.x1 hb1)⟩
theorem refBackFault_any (l:Lay) (x g:Mat) (v u t:Value) (w:World) (h:LayAt w v l) (hu:MatAt w u x) (ht:MatAt w t g) :
  Calls Tryz.prog 76 #[v,u,t] w fun e w'=>e=.returned (.int .i64 (l.backFault x g))∧Below w.heap.size w w':=by
 obtain ⟨a,n,k,b,o,a',n',k',b',o',rfl,x0,x1⟩:=h
 obtain ⟨a2,n2,k2,b2,o2,rfl,x2⟩:=hu
 obtain ⟨a3,n3,k3,b3,o3,rfl,x3⟩:=ht
 by_cases hl:l.goFault x=0
 ·have HG:=Lib.hid hl
  by_cases hx:g.fault=0
  ·have HX:=Lib.hid hx
   obtain ⟨_,_,htk⟩:=Lay.goFault_ok hl
   have HW:Hid (l.wideOr x.cols=l.wide x.cols):=Lib.hid (if_pos htk)
   have HF:Hid (l.backFault x g=if g.rows≠x.rows∨g.cols≠l.wide x.cols then 2 else if l.kind=1∧12<x.rows then 1 else 0):=Lib.hid (by unfold Lay.backFault;rw [if_neg (by simp [hl]),if_neg (by simp [hx])])
   clear hl hx htk
   rw [HF.out]
   by_cases h1:g.rows=x.rows
   ·have q1:(g.rows != x.rows)=false:=by simp [h1]
    by_cases h2:g.cols=l.wide x.cols
    ·have q2:(g.cols != l.wide x.cols)=false:=by simp [h2]
     rw [if_neg (by simp [h1,h2])]
     by_cases h3:l.kind=1
     ·have q3:(l.kind == 1)=true:=by simp [h3]
      by_cases h4:12<x.rows
      ·rw [if_pos ⟨h3,h4⟩]
       clear h1 h2 h3
       go_enter Tryz.func76,Tryz.ntmps76
       go_wp2_with fail
       refine (refGoFault_any l x _ _ _ ⟨_,_,_,_,_,_,_,_,_,_,rfl,x0.alloc _ |>.alloc _ |>.alloc _,x1.alloc _ |>.alloc _ |>.alloc _⟩ (MatAt.mk (x2.alloc _ |>.alloc _ |>.alloc _))).mono ?_
       rw [HG.out]
       rintro e w1 ⟨rfl,hb1⟩
       have B0:=((show Box _ w.heap.size [.int .i64 l.kind,.int .i64 l.W.rows,.int .i64 l.W.cols,.slice a n k,.int .i64 l.B.rows,.int .i64 l.B.cols,.slice a' n' k'] 84 from Box.x0)).keep hb1
       have B0c:=B0.cell
       have B0f:=B0.thawed
       have B0z:=B0.lt
       have B0k:=lt_add B0z
       have B1:=((show Box _ (w.heap.size+1) [.int .i64 x.rows,.int .i64 x.cols,.slice a2 n2 k2] 41 from Box.x0)).keep hb1
       have B1c:=B1.cell
       have B1f:=B1.thawed
       have B1z:=B1.lt
       have B1k:=lt_add B1z
       have B2:=((show Box _ (w.heap.size+1+1) [.int .i64 g.rows,.int .i64 g.cols,.slice a3 n3 k3] 41 from Box.x0)).keep hb1
       have B2c:=B2.cell
       have B2f:=B2.thawed
       have B2z:=B2.lt
       have B2k:=lt_add B2z
       have hkw1:Below w.heap.size w w1:=(Below.x1 hb1)
       replace x0:=x0.keep hkw1
       replace x1:=x1.keep hkw1
       replace x2:=x2.keep hkw1
       replace x3:=x3.keep hkw1
       have hsw1:=hkw1.size
       go_wp2_with fail
       refine (refMatFault_any g _ _ (MatAt.mk x3)).mono ?_
       rw [HX.out]
       rintro e w2 ⟨rfl,hb2⟩
       have hkw2:Below w1.heap.size w1 w2:=(Below.x1 hb2)
       replace B0:=B0.keep hkw2
       replace B0c:=B0.cell
       replace B0f:=B0.thawed
       replace B0z:=B0.lt
       replace B0k:=lt_add B0z
       replace B1:=B1.keep hkw2
       replace B1c:=B1.cell
       replace B1f:=B1.thawed
       replace B1z:=B1.lt
       replace B1k:=lt_add B1z
       replace B2:=B2.keep hkw2
       replace B2c:=B2.cell
       replace B2f:=B2.thawed
       replace B2z:=B2.lt
       replace B2k:=lt_add B2z
       replace x0:=x0.keep hkw2
       replace x1:=x1.keep hkw2
       have hsw2:=hkw2.size
       go_wp2_with fail
       refine (refWideOf_any l _ _ _ ⟨_,_,_,_,_,_,_,_,_,_,rfl,x0,x1⟩).mono ?_
       rw [HW.out]
       rintro e w3 ⟨rfl,hb3⟩
       have hkw3:Below w2.heap.size w2 w3:=(Below.x1 hb3)
       replace B0:=B0.keep hkw3
       replace B0c:=B0.cell
       replace B0f:=B0.thawed
       replace B0z:=B0.lt
       replace B0k:=lt_add B0z
       replace B1:=B1.keep hkw3
       replace B1c:=B1.cell
       replace B1f:=B1.thawed
       replace B1z:=B1.lt
       replace B1k:=lt_add B1z
       replace B2:=B2.keep hkw3
       replace B2c:=B2.cell
       replace B2f:=B2.thawed
       replace B2z:=B2.lt
       replace B2k:=lt_add B2z
       have hsw3:=hkw3.size
       go_wp2
       go_ret
       exact ⟨rfl,(by repeat (first|(with_reducible first|exact Below.refl _ _|refine Below.al ?_ _|refine Below.drN ?_ _|refine Below.drew ?_|refine Below.sx ?_ _|refine Below.go ?_ hb3|refine Below.go ?_ hb2|refine Below.go ?_ hb1)|exact Below.refl _ _))⟩
      ·rw [if_neg (fun h=>h4 h.2)]
       clear h1 h2 h3
       go_enter Tryz.func76,Tryz.ntmps76
       go_wp2_with fail
       refine (refGoFault_any l x _ _ _ ⟨_,_,_,_,_,_,_,_,_,_,rfl,x0.alloc _ |>.alloc _ |>.alloc _,x1.alloc _ |>.alloc _ |>.alloc _⟩ (MatAt.mk (x2.alloc _ |>.alloc _ |>.alloc _))).mono ?_
       rw [HG.out]
       rintro e w1 ⟨rfl,hb1⟩
       have B0:=((show Box _ w.heap.size [.int .i64 l.kind,.int .i64 l.W.rows,.int .i64 l.W.cols,.slice a n k,.int .i64 l.B.rows,.int .i64 l.B.cols,.slice a' n' k'] 84 from Box.x0)).keep hb1
       have B0c:=B0.cell
       have B0f:=B0.thawed
       have B0z:=B0.lt
       have B0k:=lt_add B0z
       have B1:=((show Box _ (w.heap.size+1) [.int .i64 x.rows,.int .i64 x.cols,.slice a2 n2 k2] 41 from Box.x0)).keep hb1
       have B1c:=B1.cell
       have B1f:=B1.thawed
       have B1z:=B1.lt
       have B1k:=lt_add B1z
       have B2:=((show Box _ (w.heap.size+1+1) [.int .i64 g.rows,.int .i64 g.cols,.slice a3 n3 k3] 41 from Box.x0)).keep hb1
       have B2c:=B2.cell
       have B2f:=B2.thawed
       have B2z:=B2.lt
       have B2k:=lt_add B2z
       have hkw1:Below w.heap.size w w1:=(Below.x1 hb1)
       replace x0:=x0.keep hkw1
       replace x1:=x1.keep hkw1
       replace x2:=x2.keep hkw1
       replace x3:=x3.keep hkw1
       have hsw1:=hkw1.size
       go_wp2_with fail
       refine (refMatFault_any g _ _ (MatAt.mk x3)).mono ?_
       rw [HX.out]
       rintro e w2 ⟨rfl,hb2⟩
       have hkw2:Below w1.heap.size w1 w2:=(Below.x1 hb2)
       replace B0:=B0.keep hkw2
       replace B0c:=B0.cell
       replace B0f:=B0.thawed
       replace B0z:=B0.lt
       replace B0k:=lt_add B0z
       replace B1:=B1.keep hkw2
       replace B1c:=B1.cell
       replace B1f:=B1.thawed
       replace B1z:=B1.lt
       replace B1k:=lt_add B1z
       replace B2:=B2.keep hkw2
       replace B2c:=B2.cell
       replace B2f:=B2.thawed
       replace B2z:=B2.lt
       replace B2k:=lt_add B2z
       replace x0:=x0.keep hkw2
       replace x1:=x1.keep hkw2
       have hsw2:=hkw2.size
       go_wp2_with fail
       refine (refWideOf_any l _ _ _ ⟨_,_,_,_,_,_,_,_,_,_,rfl,x0,x1⟩).mono ?_
       rw [HW.out]
       rintro e w3 ⟨rfl,hb3⟩
       have hkw3:Below w2.heap.size w2 w3:=(Below.x1 hb3)
       replace B0:=B0.keep hkw3
       replace B0c:=B0.cell
       replace B0f:=B0.thawed
       replace B0z:=B0.lt
       replace B0k:=lt_add B0z
       replace B1:=B1.keep hkw3
       replace B1c:=B1.cell
       replace B1f:=B1.thawed
       replace B1z:=B1.lt
       replace B1k:=lt_add B1z
       replace B2:=B2.keep hkw3
       replace B2c:=B2.cell
       replace B2f:=B2.thawed
       replace B2z:=B2.lt
       replace B2k:=lt_add B2z
       have hsw3:=hkw3.size
       go_wp2
       go_ret
       exact ⟨rfl,(by repeat (first|(with_reducible first|exact Below.refl _ _|refine Below.al ?_ _|refine Below.drN ?_ _|refine Below.drew ?_|refine Below.sx ?_ _|refine Below.go ?_ hb3|refine Below.go ?_ hb2|refine Below.go ?_ hb1)|exact Below.refl _ _))⟩
     ·have q3:(l.kind == 1)=false:=by simp [h3]
      rw [if_neg (fun h=>h3 h.1)]
      clear h1 h2 h3
      go_enter Tryz.func76,Tryz.ntmps76
      go_wp2_with fail
      refine (refGoFault_any l x _ _ _ ⟨_,_,_,_,_,_,_,_,_,_,rfl,x0.alloc _ |>.alloc _ |>.alloc _,x1.alloc _ |>.alloc _ |>.alloc _⟩ (MatAt.mk (x2.alloc _ |>.alloc _ |>.alloc _))).mono ?_
      rw [HG.out]
      rintro e w1 ⟨rfl,hb1⟩
      have B0:=((show Box _ w.heap.size [.int .i64 l.kind,.int .i64 l.W.rows,.int .i64 l.W.cols,.slice a n k,.int .i64 l.B.rows,.int .i64 l.B.cols,.slice a' n' k'] 84 from Box.x0)).keep hb1
      have B0c:=B0.cell
      have B0f:=B0.thawed
      have B0z:=B0.lt
      have B0k:=lt_add B0z
      have B1:=((show Box _ (w.heap.size+1) [.int .i64 x.rows,.int .i64 x.cols,.slice a2 n2 k2] 41 from Box.x0)).keep hb1
      have B1c:=B1.cell
      have B1f:=B1.thawed
      have B1z:=B1.lt
      have B1k:=lt_add B1z
      have B2:=((show Box _ (w.heap.size+1+1) [.int .i64 g.rows,.int .i64 g.cols,.slice a3 n3 k3] 41 from Box.x0)).keep hb1
      have B2c:=B2.cell
      have B2f:=B2.thawed
      have B2z:=B2.lt
      have B2k:=lt_add B2z
      have hkw1:Below w.heap.size w w1:=(Below.x1 hb1)
      replace x0:=x0.keep hkw1
      replace x1:=x1.keep hkw1
      replace x2:=x2.keep hkw1
      replace x3:=x3.keep hkw1
      have hsw1:=hkw1.size
      go_wp2_with fail
      refine (refMatFault_any g _ _ (MatAt.mk x3)).mono ?_
      rw [HX.out]
      rintro e w2 ⟨rfl,hb2⟩
      have hkw2:Below w1.heap.size w1 w2:=(Below.x1 hb2)
      replace B0:=B0.keep hkw2
      replace B0c:=B0.cell
      replace B0f:=B0.thawed
      replace B0z:=B0.lt
      replace B0k:=lt_add B0z
      replace B1:=B1.keep hkw2
      replace B1c:=B1.cell
      replace B1f:=B1.thawed
      replace B1z:=B1.lt
      replace B1k:=lt_add B1z
      replace B2:=B2.keep hkw2
      replace B2c:=B2.cell
      replace B2f:=B2.thawed
      replace B2z:=B2.lt
      replace B2k:=lt_add B2z
      replace x0:=x0.keep hkw2
      replace x1:=x1.keep hkw2
      have hsw2:=hkw2.size
      go_wp2_with fail
      refine (refWideOf_any l _ _ _ ⟨_,_,_,_,_,_,_,_,_,_,rfl,x0,x1⟩).mono ?_
      rw [HW.out]
      rintro e w3 ⟨rfl,hb3⟩
      have hkw3:Below w2.heap.size w2 w3:=(Below.x1 hb3)
      replace B0:=B0.keep hkw3
      replace B0c:=B0.cell
      replace B0f:=B0.thawed
      replace B0z:=B0.lt
      replace B0k:=lt_add B0z
      replace B1:=B1.keep hkw3
      replace B1c:=B1.cell
      replace B1f:=B1.thawed
      replace B1z:=B1.lt
      replace B1k:=lt_add B1z
      replace B2:=B2.keep hkw3
      replace B2c:=B2.cell
      replace B2f:=B2.thawed
      replace B2z:=B2.lt
      replace B2k:=lt_add B2z
      have hsw3:=hkw3.size
      go_wp2
      go_ret
      exact ⟨rfl,(by repeat (first|(with_reducible first|exact Below.refl _ _|refine Below.al ?_ _|refine Below.drN ?_ _|refine Below.drew ?_|refine Below.sx ?_ _|refine Below.go ?_ hb3|refine Below.go ?_ hb2|refine Below.go ?_ hb1)|exact Below.refl _ _))⟩
    ·have q2:(g.cols != l.wide x.cols)=true:=by simp [h2]
     rw [if_pos (Or.inr h2)]
     clear h1 h2
     go_enter Tryz.func76,Tryz.ntmps76
     go_wp2_with fail
     refine (refGoFault_any l x _ _ _ ⟨_,_,_,_,_,_,_,_,_,_,rfl,x0.alloc _ |>.alloc _ |>.alloc _,x1.alloc _ |>.alloc _ |>.alloc _⟩ (MatAt.mk (x2.alloc _ |>.alloc _ |>.alloc _))).mono ?_
     rw [HG.out]
     rintro e w1 ⟨rfl,hb1⟩
     have B0:=((show Box _ w.heap.size [.int .i64 l.kind,.int .i64 l.W.rows,.int .i64 l.W.cols,.slice a n k,.int .i64 l.B.rows,.int .i64 l.B.cols,.slice a' n' k'] 84 from Box.x0)).keep hb1
     have B0c:=B0.cell
     have B0f:=B0.thawed
     have B0z:=B0.lt
     have B0k:=lt_add B0z
     have B1:=((show Box _ (w.heap.size+1) [.int .i64 x.rows,.int .i64 x.cols,.slice a2 n2 k2] 41 from Box.x0)).keep hb1
     have B1c:=B1.cell
     have B1f:=B1.thawed
     have B1z:=B1.lt
     have B1k:=lt_add B1z
     have B2:=((show Box _ (w.heap.size+1+1) [.int .i64 g.rows,.int .i64 g.cols,.slice a3 n3 k3] 41 from Box.x0)).keep hb1
     have B2c:=B2.cell
     have B2f:=B2.thawed
     have B2z:=B2.lt
     have B2k:=lt_add B2z
     have hkw1:Below w.heap.size w w1:=(Below.x1 hb1)
     replace x0:=x0.keep hkw1
     replace x1:=x1.keep hkw1
     replace x2:=x2.keep hkw1
     replace x3:=x3.keep hkw1
     have hsw1:=hkw1.size
     go_wp2_with fail
     refine (refMatFault_any g _ _ (MatAt.mk x3)).mono ?_
     rw [HX.out]
     rintro e w2 ⟨rfl,hb2⟩
     have hkw2:Below w1.heap.size w1 w2:=(Below.x1 hb2)
     replace B0:=B0.keep hkw2
     replace B0c:=B0.cell
     replace B0f:=B0.thawed
     replace B0z:=B0.lt
     replace B0k:=lt_add B0z
     replace B1:=B1.keep hkw2
     replace B1c:=B1.cell
     replace B1f:=B1.thawed
     replace B1z:=B1.lt
     replace B1k:=lt_add B1z
     replace B2:=B2.keep hkw2
     replace B2c:=B2.cell
     replace B2f:=B2.thawed
     replace B2z:=B2.lt
     replace B2k:=lt_add B2z
     replace x0:=x0.keep hkw2
     replace x1:=x1.keep hkw2
     have hsw2:=hkw2.size
     go_wp2_with fail
     refine (refWideOf_any l _ _ _ ⟨_,_,_,_,_,_,_,_,_,_,rfl,x0,x1⟩).mono ?_
     rw [HW.out]
     rintro e w3 ⟨rfl,hb3⟩
     have hkw3:Below w2.heap.size w2 w3:=(Below.x1 hb3)
     replace B0:=B0.keep hkw3
     replace B0c:=B0.cell
     replace B0f:=B0.thawed
     replace B0z:=B0.lt
     replace B0k:=lt_add B0z
     replace B1:=B1.keep hkw3
     replace B1c:=B1.cell
     replace B1f:=B1.thawed
     replace B1z:=B1.lt
     replace B1k:=lt_add B1z
     replace B2:=B2.keep hkw3
     replace B2c:=B2.cell
     replace B2f:=B2.thawed
     replace B2z:=B2.lt
     replace B2k:=lt_add B2z
     have hsw3:=hkw3.size
     go_wp2
     go_ret
     exact ⟨rfl,(by repeat (first|(with_reducible first|exact Below.refl _ _|refine Below.al ?_ _|refine Below.drN ?_ _|refine Below.drew ?_|refine Below.sx ?_ _|refine Below.go ?_ hb3|refine Below.go ?_ hb2|refine Below.go ?_ hb1)|exact Below.refl _ _))⟩
   ·have q1:(g.rows != x.rows)=true:=by simp [h1]
    rw [if_pos (Or.inl h1)]
    clear h1
    go_enter Tryz.func76,Tryz.ntmps76
    go_wp2_with fail
    refine (refGoFault_any l x _ _ _ ⟨_,_,_,_,_,_,_,_,_,_,rfl,x0.alloc _ |>.alloc _ |>.alloc _,x1.alloc _ |>.alloc _ |>.alloc _⟩ (MatAt.mk (x2.alloc _ |>.alloc _ |>.alloc _))).mono ?_
    rw [HG.out]
    rintro e w1 ⟨rfl,hb1⟩
    have B0:=((show Box _ w.heap.size [.int .i64 l.kind,.int .i64 l.W.rows,.int .i64 l.W.cols,.slice a n k,.int .i64 l.B.rows,.int .i64 l.B.cols,.slice a' n' k'] 84 from Box.x0)).keep hb1
    have B0c:=B0.cell
    have B0f:=B0.thawed
    have B0z:=B0.lt
    have B0k:=lt_add B0z
    have B1:=((show Box _ (w.heap.size+1) [.int .i64 x.rows,.int .i64 x.cols,.slice a2 n2 k2] 41 from Box.x0)).keep hb1
    have B1c:=B1.cell
    have B1f:=B1.thawed
    have B1z:=B1.lt
    have B1k:=lt_add B1z
    have B2:=((show Box _ (w.heap.size+1+1) [.int .i64 g.rows,.int .i64 g.cols,.slice a3 n3 k3] 41 from Box.x0)).keep hb1
    have B2c:=B2.cell
    have B2f:=B2.thawed
    have B2z:=B2.lt
    have B2k:=lt_add B2z
    have hkw1:Below w.heap.size w w1:=(Below.x1 hb1)
    replace x0:=x0.keep hkw1
    replace x1:=x1.keep hkw1
    replace x2:=x2.keep hkw1
    replace x3:=x3.keep hkw1
    have hsw1:=hkw1.size
    go_wp2_with fail
    refine (refMatFault_any g _ _ (MatAt.mk x3)).mono ?_
    rw [HX.out]
    rintro e w2 ⟨rfl,hb2⟩
    have hkw2:Below w1.heap.size w1 w2:=(Below.x1 hb2)
    replace B0:=B0.keep hkw2
    replace B0c:=B0.cell
    replace B0f:=B0.thawed
    replace B0z:=B0.lt
    replace B0k:=lt_add B0z
    replace B1:=B1.keep hkw2
    replace B1c:=B1.cell
    replace B1f:=B1.thawed
    replace B1z:=B1.lt
    replace B1k:=lt_add B1z
    replace B2:=B2.keep hkw2
    replace B2c:=B2.cell
    replace B2f:=B2.thawed
    replace B2z:=B2.lt
    replace B2k:=lt_add B2z
    replace x0:=x0.keep hkw2
    replace x1:=x1.keep hkw2
    have hsw2:=hkw2.size
    go_wp2_with fail
    refine (refWideOf_any l _ _ _ ⟨_,_,_,_,_,_,_,_,_,_,rfl,x0,x1⟩).mono ?_
    rw [HW.out]
    rintro e w3 ⟨rfl,hb3⟩
    have hkw3:Below w2.heap.size w2 w3:=(Below.x1 hb3)
    replace B0:=B0.keep hkw3
    replace B0c:=B0.cell
    replace B0f:=B0.thawed
    replace B0z:=B0.lt
    replace B0k:=lt_add B0z
    replace B1:=B1.keep hkw3
    replace B1c:=B1.cell
    replace B1f:=B1.thawed
    replace B1z:=B1.lt
    replace B1k:=lt_add B1z
    replace B2:=B2.keep hkw3
    replace B2c:=B2.cell
    replace B2f:=B2.thawed
    replace B2z:=B2.lt
    replace B2k:=lt_add B2z
    have hsw3:=hkw3.size
    go_wp2
    go_ret
    exact ⟨rfl,(by repeat (first|(with_reducible first|exact Below.refl _ _|refine Below.al ?_ _|refine Below.drN ?_ _|refine Below.drew ?_|refine Below.sx ?_ _|refine Below.go ?_ hb3|refine Below.go ?_ hb2|refine Below.go ?_ hb1)|exact Below.refl _ _))⟩
  ·have HF:Hid (l.backFault x g=g.fault):=Lib.hid (by unfold Lay.backFault;rw [if_neg (by simp [hl]),if_pos hx])
   have q:(g.fault != 0)=true:=by simp [hx]
   clear hl hx
   rw [HF.out]
   go_enter Tryz.func76,Tryz.ntmps76
   go_wp2_with fail
   refine (refGoFault_any l x _ _ _ ⟨_,_,_,_,_,_,_,_,_,_,rfl,x0.alloc _ |>.alloc _ |>.alloc _,x1.alloc _ |>.alloc _ |>.alloc _⟩ (MatAt.mk (x2.alloc _ |>.alloc _ |>.alloc _))).mono ?_
   rw [HG.out]
   rintro e w1 ⟨rfl,hb1⟩
   have B0:=((show Box _ w.heap.size [.int .i64 l.kind,.int .i64 l.W.rows,.int .i64 l.W.cols,.slice a n k,.int .i64 l.B.rows,.int .i64 l.B.cols,.slice a' n' k'] 84 from Box.x0)).keep hb1
   have B0c:=B0.cell
   have B0f:=B0.thawed
   have B0z:=B0.lt
   have B0k:=lt_add B0z
   have B1:=((show Box _ (w.heap.size+1) [.int .i64 x.rows,.int .i64 x.cols,.slice a2 n2 k2] 41 from Box.x0)).keep hb1
   have B1c:=B1.cell
   have B1f:=B1.thawed
   have B1z:=B1.lt
   have B1k:=lt_add B1z
   have B2:=((show Box _ (w.heap.size+1+1) [.int .i64 g.rows,.int .i64 g.cols,.slice a3 n3 k3] 41 from Box.x0)).keep hb1
   have B2c:=B2.cell
   have B2f:=B2.thawed
   have B2z:=B2.lt
   have B2k:=lt_add B2z
   have hkw1:Below w.heap.size w w1:=(Below.x1 hb1)
   replace x0:=x0.keep hkw1
   replace x1:=x1.keep hkw1
   replace x2:=x2.keep hkw1
   replace x3:=x3.keep hkw1
   have hsw1:=hkw1.size
   go_wp2_with fail
   refine (refMatFault_any g _ _ (MatAt.mk x3)).mono ?_
   rintro e w2 ⟨rfl,hb2⟩
   go_wp2
   go_ret
   exact ⟨rfl,(Below.x2 hb2 hb1)⟩
 ·have HF:Hid (l.backFault x g=l.goFault x):=Lib.hid (by unfold Lay.backFault;rw [if_pos hl])
  have q:(l.goFault x != 0)=true:=by simp [hl]
  have q1:(l.goFault x == 0)=false:=by simp [hl]
  clear hl
  rw [HF.out]
  go_enter Tryz.func76,Tryz.ntmps76
  go_wp2_with fail
  refine (refGoFault_any l x _ _ _ ⟨_,_,_,_,_,_,_,_,_,_,rfl,x0.alloc _ |>.alloc _ |>.alloc _,x1.alloc _ |>.alloc _ |>.alloc _⟩ (MatAt.mk (x2.alloc _ |>.alloc _ |>.alloc _))).mono ?_
  skip
  rintro e w1 ⟨rfl,hb1⟩
  have B0:=((show Box _ w.heap.size [.int .i64 l.kind,.int .i64 l.W.rows,.int .i64 l.W.cols,.slice a n k,.int .i64 l.B.rows,.int .i64 l.B.cols,.slice a' n' k'] 84 from Box.x0)).keep hb1
  have B0c:=B0.cell
  have B0f:=B0.thawed
  have B0z:=B0.lt
  have B0k:=lt_add B0z
  have B1:=((show Box _ (w.heap.size+1) [.int .i64 x.rows,.int .i64 x.cols,.slice a2 n2 k2] 41 from Box.x0)).keep hb1
  have B1c:=B1.cell
  have B1f:=B1.thawed
  have B1z:=B1.lt
  have B1k:=lt_add B1z
  have B2:=((show Box _ (w.heap.size+1+1) [.int .i64 g.rows,.int .i64 g.cols,.slice a3 n3 k3] 41 from Box.x0)).keep hb1
  have B2c:=B2.cell
  have B2f:=B2.thawed
  have B2z:=B2.lt
  have B2k:=lt_add B2z
  have hkw1:Below w.heap.size w w1:=(Below.x1 hb1)
  replace x0:=x0.keep hkw1
  replace x1:=x1.keep hkw1
  replace x2:=x2.keep hkw1
  replace x3:=x3.keep hkw1
  have hsw1:=hkw1.size
  go_wp2
  go_ret
  exact ⟨rfl,(Below.x1 hb1)⟩
end Go.Proofs.YtchngeagnlngaaaGreatDoor
end
