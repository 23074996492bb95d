/- Texts joined: Net2, Net3, Loss1. -/
import Derived.Test.YtchngeagnlngaaaGreatDoorJ22
import Derived.Test.YtchngeagnlngaaaGreatDoorJ19
import Derived.Test.YtchngeagnlngaaaGreatDoorJ18
import Derived.Test.YtchngeagnlngaaaGreatDoorJ10
import Derived.Test.YtchngeagnlngaaaGreatDoorJ28
import Derived.Test.YtchngeagnlngaaaGreatDoorJ11
import Derived.Deep.DeepCutAuto
import Derived.Deep.RegionHeld3
import Derived.IntWalk
import Derived.Test.YtchngeagnlngaaaGreatDoorJ06
import Derived.Test.YtchngeagnlngaaaGreatDoorJ08
import Derived.Test.YtchngeagnlngaaaGreatDoorJ05
import Derived.Test.YtchngeagnlngaaaGreatDoorJ01
import Derived.RangeFuncNested
import Derived.RangeFuncBound
import Derived.RangeFuncCalls
import Derived.RangeFuncLeaves
import Derived.RangeFuncBox
import Derived.Shelf.Abstract
import Derived.Shelf.RegionOpen
import Derived.OwnWalkIn
import Derived.TacticsInMore
import Derived.LoopNIn
import Derived.LoopIn
import Derived.RegionIn
set_option linter.unusedVariables false
set_option linter.unusedSimpArgs false
set_option linter.unusedSectionVars false
section
namespace Gal
open Go Go.RowKit
structure Cells3 (w:World) (b i:Nat) (x y z:Value):Prop where
 c0:w.cell? ⟨b,i,none⟩=some x
 c1:w.cell? ⟨b,i+1,none⟩=some y
 c2:w.cell? ⟨b,i+2,none⟩=some z
section
variable {w w':World} {b i:Nat} {x y z:Value}
theorem Cells3.keep (h:Cells3 w b i x y z) (hb:Below w.heap.size w w'):Cells3 w' b i x y z:=⟨cell_keep hb h.c0,cell_keep hb h.c1,cell_keep hb h.c2⟩
theorem Cells3.alloc (h:Cells3 w b i x y z) (o:Obj):Cells3 (w.alloc o) b i x y z:=h.keep ((Below.refl w.heap.size w).alloc (Nat.le_refl _) o)
theorem Cells3.drewN (h:Cells3 w b i x y z) (n:Nat):Cells3 (w.drewN n) b i x y z:=⟨h.c0,h.c1,h.c2⟩
theorem Cells3.drew (h:Cells3 w b i x y z):Cells3 w.drew b i x y z:=⟨h.c0,h.c1,h.c2⟩
theorem Cells3.far (h:Cells3 w b i x y z) {a:Addr} (hne:b≠a.block) (v:Value):Cells3 (w.setCell a v) b i x y z:=
 ⟨(World.cell?_of_block (a:=⟨b,i,none⟩) (Below.heap_setCell w a v b hne)).trans h.c0,(World.cell?_of_block (a:=⟨b,i+1,none⟩) (Below.heap_setCell w a v b hne)).trans h.c1,(World.cell?_of_block (a:=⟨b,i+2,none⟩) (Below.heap_setCell w a v b hne)).trans h.c2⟩
end
theorem cells73 {w:World} {b c i:Nat} {t:TypeId} {v0 v1 v2 v3 v4 v5 v6 x y z:Value} (h:Box w b [v0,v1,v2,v3,v4,v5,v6] t) (m:Cells3 w c i x y z) :
  w.cell? ⟨b,0,none⟩=some v0∧w.cell? ⟨b,1,none⟩=some v1∧w.cell? ⟨b,2,none⟩=some v2∧w.cell? ⟨b,3,none⟩=some v3∧w.cell? ⟨b,4,none⟩=some v4∧w.cell? ⟨b,5,none⟩=some v5∧w.cell? ⟨b,6,none⟩=some v6 ∧
  w.cell? ⟨c,i,none⟩=some x∧w.cell? ⟨c,i+1,none⟩=some y∧w.cell? ⟨c,i+2,none⟩=some z:=
 ⟨h.cell 0,h.cell 1,h.cell 2,h.cell 3,h.cell 4,h.cell 5,h.cell 6,m.c0,m.c1,m.c2⟩
end Gal
namespace Go.Proofs.YtchngeagnlngaaaGreatDoor
open Go.RowKit Gal
theorem info_mat:(Tryz.prog.info? 41).map (fun i=>(i.zero,i.size,i.bytes))=some (some (.agg #[.int .i64 0,.int .i64 0,.slice none 0 0]),3,40):=by kernel_rfl
set_option maxRecDepth 100000
set_option maxHeartbeats 4000000
theorem netClone_any (m:Mat) (va:Value) (w:World) (ha:MatAt w va m) (hn:m.cells.length*8≤140737488355328) :
  Calls Tryz.prog 85 #[va] w fun e w'=>∃ v,e=.returned v∧MatNew w.heap.size w' v m∧Below w.heap.size w w':=by
 obtain ⟨a0,n0,k0,b0,o0,rfl,x0⟩:=ha
 have hl:=x0.len
 have HN:Hid (n0*8≤140737488355328):=Lib.hid (by omega)
 clear hn hl
 go_enter Tryz.func85,Tryz.ntmps85
 go_wp2_with fail
 refine (clone_any a0 n0 k0 b0 o0 m.cells _ (x0.alloc _ |>.alloc _) HN.out).mono ?_
 rintro e w1 ⟨a1,k1,b1,rfl,hbb,y1,hb1⟩
 have B1:=((show Box _ w.heap.size [.int .i64 m.rows,.int .i64 m.cols,.slice a0 n0 k0] 41 from Box.x0)).keep hb1
 have B1c:=B1.cell
 have B1f:=B1.thawed
 have B1z:=B1.lt
 have B1k:=lt_add B1z
 have B2:=((show Box _ (w.heap.size+1) [.int .i64 0,.int .i64 0,.slice none 0 0] 41 from Box.x0)).keep hb1
 have B2c:=B2.cell
 have B2f:=B2.thawed
 have B2z:=B2.lt
 have B2k:=lt_add B2z
 simp at hbb
 have l1:0<n0→w.heap.size+1<b1:=fun h=>by have:=hbb h;omega
 go_wp2
 refine bodyPost_ret (v:=.agg #[.int .i64 m.rows,.int .i64 m.cols,.slice a1 n0 k1]) (by simp [results,Tryz.results85,go_sem,B2c,B1c,B2z,B1z]) rfl ⟨_,rfl,MatNew.mk (b:=b1) (off:=0) (fun h=>by have:=l1 h;omega) (by repeat (first|(with_reducible first|exact y1|refine IntsAt.alloc ?_ _|refine IntsAt.drewN ?_ _|refine IntsAt.drew ?_|(refine IntsAt.set ?_ ?_ _;rotate_left 1;(intro h0;have hq0:=l1 h0;first|(dsimp only;omega)|omega|(simp;omega)|simp)))|exact y1)),(Below.x1 hb1)⟩
section
variable (ls:List Lay) (F:Nat→Prop) (a:Option Addr) (n k b o:Nat) (x:Mat) (vx:Value) (w:World) (h:RowAt Form.lay w F a n k b o ls) (hx:MatAt w vx x)
include h hx
theorem netGo_any:Calls Tryz.prog 58 #[.slice a n k,vx] w fun e w'=>∃ v,e=.returned (.tuple #[v,errV (netGoFault ls x)])∧Below w.heap.size w w' ∧
      (netGoFault ls x=0→∃ a' k' b',v=.slice a' (n+1) k'∧RowAt Form.mat w' (newB w.heap.size) a' (n+1) k' b' 0 (netOuts ls x n))∧(netGoFault ls x≠0→v=.slice none 0 0):=by
  obtain ⟨i0,hi,hz0,hz1,hz2⟩:=info_parts info_mat
  obtain ⟨ax,nx,kx,bx,ox,rfl,x0⟩:=hx
  have hl:=h.len
  have hm:=h.max
  unfold maxLen at hm
  by_cases h12:12<n
  · have hf:netGoFault ls x=3:=by unfold netGoFault;rw [if_pos (by omega)]
    rw [hf]
    go_enter Tryz.func58,Tryz.ntmps58
    go_wp2
    refine bodyPost_ret (v:=.tuple #[.slice none 0 0,.iface 36 (.int .i64 3)]) (by simp [results,Tryz.results58,go_sem]) rfl ⟨.slice none 0 0,?_,Below.x0,?_,?_⟩
    · rfl
    · exact fun h=>absurd h (by decide)
    · exact fun _=>rfl
  · by_cases hf : x.fault=0
    · have HF : Hid (netGoFault ls x=goTo ls x n):=Lib.hid (by unfold netGoFault;rw [if_neg (by omega),if_neg (by simp [hf]),hl])
      have HE:Hid (errV (matFault x.rows x.cols x.cells)=.nilIface):=Lib.hid (errV_nil hf)
      have HX:=Lib.hid hf
      have hxl:x.cells.length*8≤140737488355328:=by obtain ⟨_,_,h3⟩:=fault_bd hf;omega
      clear hf
      rw [HF.out]
      go_enter Tryz.func58,Tryz.ntmps58
      go_wp2_with fail
      refine (matCheck_any _ _ _ _ _ _ _ x.cells _ (x0.alloc _)).mono ?_
      rw [HE.out]
      rintro e w1 ⟨rfl,hb1⟩
      have B3:=(Box.new w [.int .i64 x.rows,.int .i64 x.cols,.slice ax nx kx] 41).keep hb1
      have B3c:=B3.cell
      have B3f:=B3.thawed
      have B3z:=B3.lt
      have B3k:=lt_add B3z
      replace h:=(h.alloc _).keep hb1
      replace x0:=(x0.alloc _).keep hb1
      go_wp2_with fail
      refine (netClone_any x _ _ (MatAt.mk x0) hxl).mono ?_
      rintro e w2 ⟨v2,rfl,⟨a2,n2,k2,b2,o2,rfl,hn2,x2⟩,hb2⟩
      have hkw2:Below w1.heap.size w1 w2:=(Below.x1 hb2)
      replace B3:=B3.keep hkw2
      replace B3c:=B3.cell
      replace B3f:=B3.thawed
      replace B3z:=B3.lt
      replace B3k:=lt_add B3z
      replace h:=h.keep hkw2
      have hsw2:=hkw2.size
      have hz1':w.heap.size+1≤w1.heap.size:=by have:=hb1.size;simp at this;omega
      have l2:0<n2→w1.heap.size≤b2:=hn2
      have l2':=x2.lt
      have hbw2:Below w.heap.size w w2:=(Below.x2 hb2 hb1)
      have hown0:OwnRow Form.mat 41 (w2.alloc (.cells #[.int .i64 x.rows,.int .i64 x.cols,.slice a2 n2 k2] 41)) w2.heap.size (newB (w.heap.size+1)) (.slice (some ⟨w2.heap.size,0,none⟩) 1 1) (netOuts ls x 0):=
        own_one (Box.new _ _ _) ⟨a2,n2,k2,b2,o2,rfl,fun h=>⟨by have:=l2 h;unfold newB;omega,by have:=l2' h;omega⟩,x2.alloc _⟩ (Nat.le_refl _)
      have hz2':w.heap.size+1≤w2.heap.size:=by have:=hb2.size;omega
      go_wp2
      go_loopw [7,26] (fun s j wr=>∃ t:Nat,t≤n∧j=.int .i64 t∧goTo ls x t=0∧OwnRow Form.mat 41 wr w2.heap.size (newB (w.heap.size+1)) s (netOuts ls x t)∧Below w2.heap.size w2 wr) (fun _ j _=>n - (intOf j).toNat)
      case atStart=>exact ⟨0,Nat.zero_le _,rfl,rfl,hown0,Below.x0⟩
      case round=>
        clear hown0
        obtain ⟨t,ht,rfl,hg0,hown,hbr⟩:=hrel
        have HG:=Lib.hid hg0
        have HXF:=Lib.hid (netTo_fault HX.out hg0)
        clear hg0 B3 B3c B3f B3z B3k
        by_cases hlt:t<n
        · obtain rfl:=h.ptr (by omega)
          obtain ⟨a4,n4,k4,b4,o4,a5,n5,k5,b5,o5,c0,c1,c2,c3,c4,c5,c6,x4,x5⟩:=lay_cells (h.keep hbr) hlt
          obtain ⟨av,cv,b',hv,hb',hrow⟩:=hown.row (G:=newB (w.heap.size+1)) (fun _ h _=>h) (fun b h=>by unfold newB;omega)
          rw [netOuts_length] at hv hb' hrow
          obtain ⟨q,hq⟩:∃ q,q=t+1:=⟨_,rfl⟩
          rw [← hq] at hv hrow
          subst hv
          obtain rfl:=hrow.ptr (by omega)
          obtain ⟨cs,⟨a6,n6,k6,b6,o6,rfl,_,x6⟩,hc⟩:=hrow.cell t _ (netOuts_last ls x t)
          have m0:wr.cell? ⟨b',t*3,none⟩=some (.int .i64 (netTo ls x t).rows):=by simpa [Form.mat] using hc 0 (by decide)
          have m1:wr.cell? ⟨b',t*3+1,none⟩=some (.int .i64 (netTo ls x t).cols):=by simpa [Form.mat] using hc 1 (by decide)
          have m2:wr.cell? ⟨b',t*3+2,none⟩=some (.slice a6 n6 k6):=by simpa [Form.mat] using hc 2 (by decide)
          clear hc
          have hb'l:b'<wr.heap.size:=(hown.base_le b' rfl).2
          have hbx:Below w.heap.size w wr:=(Below.y1 hbr hbw2)
          have BX:=Box.new wr [.int .i64 (lx ls t).kind,.int .i64 (lx ls t).W.rows,.int .i64 (lx ls t).W.cols,.slice a4 n4 k4,.int .i64 (lx ls t).B.rows,.int .i64 (lx ls t).B.cols,.slice a5 n5 k5] 84
          have hal:Below wr.heap.size wr (wr.alloc (.cells #[.int .i64 (lx ls t).kind,.int .i64 (lx ls t).W.rows,.int .i64 (lx ls t).W.cols,.slice a4 n4 k4,.int .i64 (lx ls t).B.rows,.int .i64 (lx ls t).B.cols,.slice a5 n5 k5] 84)):=Below.x0
          have M3:Cells3 (wr.alloc (.cells #[.int .i64 (lx ls t).kind,.int .i64 (lx ls t).W.rows,.int .i64 (lx ls t).W.cols,.slice a4 n4 k4,.int .i64 (lx ls t).B.rows,.int .i64 (lx ls t).B.cols,.slice a5 n5 k5] 84)) b' (t*3) (.int .i64 (netTo ls x t).rows) (.int .i64 (netTo ls x t).cols) (.slice a6 n6 k6):=Cells3.keep ⟨m0,m1,m2⟩ hal
          clear m0 m1 m2
          replace x4:=x4.keep hal
          replace x5:=x5.keep hal
          replace x6:=x6.keep hal
          have hqI:(q:Int) - 1=(t:Int):=by omega
          have hi1:IntKind.i64.wrap ((q:Int) - 1)=(t:Int):=by rw [hqI];exact IntWalk.i64_in _ (by omega)
          have hi2:(t:Int)<(q:Int):=by omega
          have hi3:(0:Int)≤(t:Int):=by omega
          have HQ:=Lib.hid hq
          clear hq hqI
          have hw2z:w.heap.size+1≤wr.heap.size:=by have:=hbr.size;have:=hb2.size;omega
          go_wp2_with fail
          by_cases hff:(lx ls t).goFault (netTo ls x t)=0
          · have HFF:=Lib.hid hff
            clear hff
            go_cut [10,11] (fun s10 s11 wx=>∃ p a7 n7 k7 b7 o7,s10=.pointer (some ⟨p,0,none⟩)∧s11=.nilIface∧Box wx p [.int .i64 (netTo ls x (t+1)).rows,.int .i64 (netTo ls x (t+1)).cols,.slice a7 n7 k7] 41∧IntsAt wx a7 n7 k7 b7 o7 (netTo ls x (t+1)).cells∧(0<n7→wr.heap.size<b7)∧Below wr.heap.size wr wx∧wr.heap.size<wx.heap.size)
            case first=>
              go_region_held3 (fun w'=>w'.cell? ⟨wr.heap.size,0,none⟩=some (.int .i64 (lx ls t).kind)∧w'.cell? ⟨wr.heap.size,1,none⟩=some (.int .i64 (lx ls t).W.rows)∧w'.cell? ⟨wr.heap.size,2,none⟩=some (.int .i64 (lx ls t).W.cols)∧w'.cell? ⟨wr.heap.size,3,none⟩=some (.slice a4 n4 k4)∧w'.cell? ⟨wr.heap.size,4,none⟩=some (.int .i64 (lx ls t).B.rows)∧w'.cell? ⟨wr.heap.size,5,none⟩=some (.int .i64 (lx ls t).B.cols)∧w'.cell? ⟨wr.heap.size,6,none⟩=some (.slice a5 n5 k5)∧w'.cell? ⟨b',t*3,none⟩=some (.int .i64 (netTo ls x t).rows)∧w'.cell? ⟨b',t*3+1,none⟩=some (.int .i64 (netTo ls x t).cols)∧w'.cell? ⟨b',t*3+2,none⟩=some (.slice a6 n6 k6)) (exact cells73 (t:=84) (by first|exact BX.k1 hb7|exact BX.k) (by repeat (first|(with_reducible first|exact M3|refine Cells3.alloc ?_ _|refine Cells3.drewN ?_ _|refine Cells3.drew ?_|(refine Cells3.far ?_ ?_ _;rotate_left 1;(first|(dsimp only;omega)|omega|(simp;omega)|simp))|refine Cells3.keep ?_ hb7)|exact M3))) ((go_at_call 86;go_must (refine (layGo_is (l:=lx ls t) (m:=netTo ls x t) (y:=netTo ls x (t+1)) ⟨_,_,_,_,_,_,_,_,_,_,rfl,(show IntsAt _ a4 n4 k4 b4 o4 (lx ls t).W.cells from x4.k),(show IntsAt _ a5 n5 k5 b5 o5 (lx ls t).B.cells from x5.k)⟩ (MatAt.mk (show IntsAt _ a6 n6 k6 b6 o6 (netTo ls x t).cells from x6.k)) HFF.out rfl).mono ?_);go_must (rintro e w7 ⟨v7,rfl,⟨a7,n7,k7,b7,o7,rfl,hn7,x7⟩,hb7⟩);(try (refine (fun (P1:Box w7 (wr.heap.size+1) [.int .i64 0,.int .i64 0,.slice none 0 0] 41)=>?_) ?_;rotate_left 1;(with_reducible refine Box.keep ?_ hb7);(focus ((repeat (first|(with_reducible refine (Box.new' _ (wr.heap.size+1) _ _ ?_);(simp;done))|(with_reducible refine Box.alloc ?_ _)|(with_reducible refine Box.drew ?_)|(with_reducible refine Box.drewN ?_ _)));done));have P1c:=P1.cell;have P1f:=P1.thawed;have P1z:=P1.lt))))
              all_goals (
                go_wp2_with fail
                go_meet
                simp at hn7
                have hbz:=hb7.size
                simp at hbz
                exact ⟨_,a7,n7,k7,b7,o7,rfl,rfl,(by repeat (first|(with_reducible first|(refine (Box.new' _ _ _ _ ?_);(simp;done))|refine Box.alloc ?_ _|refine Box.drewN ?_ _|refine Box.drew ?_|refine Box.set6z ?_ _ _ _ _ _ _|refine Box.set3z ?_ _ _ _|refine Box.fx ?_ _|refine Box.keep ?_ hb7))),(by repeat (first|(with_reducible first|exact x7|refine IntsAt.alloc ?_ _|refine IntsAt.drewN ?_ _|refine IntsAt.drew ?_|(refine IntsAt.set ?_ ?_ _;rotate_left 1;(intro h0;have hq0:=hn7 h0;first|(dsimp only;omega)|omega|(simp;omega)|simp)))|exact x7)),fun h=>by have:=hn7 h;omega,(Below.x1 hb7),by first|(simp [World.setCell];omega)|omega⟩)
            case rest=>
              obtain ⟨p,a7,n7,k7,b7,o7,rfl,rfl,P10,x7,hn7,hbc,hzc⟩:=hcut
              have P10:=P10
              have P10c:=P10.cell
              have P10f:=P10.thawed
              have P10z:=P10.lt
              have P10k:=lt_add P10z
              have HOWN:OwnRow Form.mat 41 wc w2.heap.size (newB (w.heap.size+1)) (.slice (some ⟨b',0,none⟩) q cv) (netOuts ls x t):=hown.keep hbc
              have hlen:=netOuts_length ls x t
              have HL:=Lib.hid hlen
              have hbe:Below w.heap.size w wc:=(Below.y1 hbc hbx)
              have hbe2:Below w2.heap.size w2 wc:=(Below.y1 hbc hbr)
              clear hlen hown M3 BX hal x4 x5 x6 hrow hi1 hi2 hi3
              go_wp2_with (at_builtin;refine wpList_push rfl (.tmp 44) (.tmp 46) 87 rfl Form.mat w2.heap.size (newB (w.heap.size+1)) 41 i0 (.agg #[.int .i64 0,.int .i64 0,.slice none 0 0]) 40 Tryz.underlying87 hi hz0 hz1 hz2 rfl (by decide) (.slice (some ⟨b',0,none⟩) q cv) (netOuts ls x t) rfl ?c1 wc.heap.size 1 [.int .i64 (netTo ls x (t+1)).rows,.int .i64 (netTo ls x (t+1)).cols,.slice a7 n7 k7] 41 (netTo ls x (t+1)) rfl ?c2 ?c3 ?c4 ?c5 ?c6 _ rfl ?_)
              case c1=>exact HOWN.keep ((Below.refl wc.heap.size wc).alloc (Nat.le_refl _) _)
              case c2=>exact Box.new _ _ _
              case c3=>exact ⟨a7,n7,k7,b7,o7,rfl,fun h=>⟨by have:=hn7 h;unfold newB;omega,by simp [Value.ownBlock];have:=hn7 h;omega⟩,x7.alloc _⟩
              case c4=>rw [HL.out];omega
              case c5=>rw [HL.out];unfold maxLen;omega
              case c6=>simp;omega
              intro g cap w' hown' hgrow hgv hgl
              have hbn:Below w.heap.size w w':=Below.grown (Below.al hbe _) hgrow (by simp;omega) (fun q hq=>by have:=(HOWN.base_le q hq).1;omega)
              have hbn2:Below w2.heap.size w2 w':=Below.grown (Below.al hbe2 _) hgrow (by have:=hbe2.size;simp;omega) (fun q hq=>(HOWN.base_le q hq).1)
              go_wp2
              go_roundw
              case rel=>exact ⟨t+1,by omega,by go_num,by rw [goTo_succ HG.out];exact HFF.out,by rw [netOuts_succ];exact hown',hbn2⟩
              case measure=>simp [intOf];omega
          · have HFF:=Lib.hid hff
            clear hff
            go_cut [10,11] (fun s10 s11 wx=>s11=.iface 36 (.int .i64 ((lx ls t).goFault (netTo ls x t)))∧Below wr.heap.size wr wx)
            case first=>
              go_region_held3 (fun w'=>w'.cell? ⟨wr.heap.size,0,none⟩=some (.int .i64 (lx ls t).kind)∧w'.cell? ⟨wr.heap.size,1,none⟩=some (.int .i64 (lx ls t).W.rows)∧w'.cell? ⟨wr.heap.size,2,none⟩=some (.int .i64 (lx ls t).W.cols)∧w'.cell? ⟨wr.heap.size,3,none⟩=some (.slice a4 n4 k4)∧w'.cell? ⟨wr.heap.size,4,none⟩=some (.int .i64 (lx ls t).B.rows)∧w'.cell? ⟨wr.heap.size,5,none⟩=some (.int .i64 (lx ls t).B.cols)∧w'.cell? ⟨wr.heap.size,6,none⟩=some (.slice a5 n5 k5)∧w'.cell? ⟨b',t*3,none⟩=some (.int .i64 (netTo ls x t).rows)∧w'.cell? ⟨b',t*3+1,none⟩=some (.int .i64 (netTo ls x t).cols)∧w'.cell? ⟨b',t*3+2,none⟩=some (.slice a6 n6 k6)) (exact cells73 (t:=84) (by first|exact BX.k1 hb7|exact BX.k) (by repeat (first|(with_reducible first|exact M3|refine Cells3.alloc ?_ _|refine Cells3.drewN ?_ _|refine Cells3.drew ?_|(refine Cells3.far ?_ ?_ _;rotate_left 1;(first|(dsimp only;omega)|omega|(simp;omega)|simp))|refine Cells3.keep ?_ hb7)|exact M3))) ((go_at_call 86;go_must (refine (layGo_not (l:=lx ls t) (m:=netTo ls x t) ⟨_,_,_,_,_,_,_,_,_,_,rfl,(show IntsAt _ a4 n4 k4 b4 o4 (lx ls t).W.cells from x4.k),(show IntsAt _ a5 n5 k5 b5 o5 (lx ls t).B.cells from x5.k)⟩ (MatAt.mk (show IntsAt _ a6 n6 k6 b6 o6 (netTo ls x t).cells from x6.k)) HFF.out).mono ?_);go_must (rintro e w7 ⟨v7,rfl,⟨a7,n7,k7,b7,o7,rfl,hn7,x7⟩,hb7⟩);(try (refine (fun (P1:Box w7 (wr.heap.size+1) [.int .i64 0,.int .i64 0,.slice none 0 0] 41)=>?_) ?_;rotate_left 1;(with_reducible refine Box.keep ?_ hb7);(focus ((repeat (first|(with_reducible refine (Box.new' _ (wr.heap.size+1) _ _ ?_);(simp;done))|(with_reducible refine Box.alloc ?_ _)|(with_reducible refine Box.drew ?_)|(with_reducible refine Box.drewN ?_ _)));done));have P1c:=P1.cell;have P1f:=P1.thawed;have P1z:=P1.lt))))
              all_goals (
                go_wp2_with fail
                go_meet
                exact ⟨rfl,(Below.x1 hb7)⟩)
            case rest=>
              obtain ⟨rfl,hbc⟩:=hcut
              have hbe:Below w.heap.size w wc:=(Below.y1 hbc hbx)
              have hs:goTo ls x (t+1)=(lx ls t).goFault (netTo ls x t):=goTo_succ HG.out
              have HST:Hid (goTo ls x n=(lx ls t).goFault (netTo ls x t)):=Lib.hid (by rw [goTo_stop (show t+1≤n by omega) (by rw [hs];exact HFF.out),hs])
              have HEE:Hid (errV ((lx ls t).goFault (netTo ls x t))=.iface 36 (.int .i64 ((lx ls t).goFault (netTo ls x t)))):=Lib.hid (errV_err HFF.out)
              clear hs
              go_wp2
              refine bodyPost_ret (v:=.tuple #[.slice none 0 0,.iface 36 (.int .i64 ((lx ls t).goFault (netTo ls x t)))]) (by simp [results,Tryz.results58,go_sem]) rfl ⟨.slice none 0 0,?_,hbe,?_,?_⟩
              · rw [HST.out,HEE.out]
              · exact fun h=>absurd h (by rw [HST.out];exact HFF.out)
              · exact fun _=>rfl
        · obtain rfl:t=n:=by omega
          have hbe:Below w.heap.size w wr:=(Below.y1 hbr hbw2)
          obtain ⟨av,cv,b',rfl,hb',hrow⟩:=hown.row (G:=newB w.heap.size) (fun b h _=>by unfold newB at *;omega) (fun b h=>by unfold newB;omega)
          rw [netOuts_length] at hb' hrow
          have HR:=Lib.hid hrow
          have HL:=Lib.hid (netOuts_length ls x t)
          clear hown hrow
          go_wp2
          rw [HL.out]
          refine bodyPost_ret (v:=.tuple #[.slice av (t+1) cv,.nilIface]) (by simp [results,Tryz.results58,go_sem]) rfl ⟨.slice av (t+1) cv,?_,hbe,?_,?_⟩
          · rw [HG.out,errV_nil rfl]
          · exact fun _=>⟨av,cv,b',rfl,HR.out⟩
          · exact fun h=>absurd HG.out h
    · have hq:netGoFault ls x=x.fault:=by unfold netGoFault;rw [if_neg (by omega),if_pos hf]
      have HE:Hid (errV (matFault x.rows x.cols x.cells)=.iface 36 (.int .i64 x.fault)):=Lib.hid (errV_err hf)
      have HEF:Hid (errV x.fault=.iface 36 (.int .i64 x.fault)):=Lib.hid (errV_err hf)
      have HF:=Lib.hid hf
      rw [hq]
      clear hf hq
      go_enter Tryz.func58,Tryz.ntmps58
      go_wp2_with fail
      refine (matCheck_any _ _ _ _ _ _ _ x.cells _ (x0.alloc _)).mono ?_
      rw [HE.out]
      rintro e w1 ⟨rfl,hb1⟩
      go_wp2
      refine bodyPost_ret (v:=.tuple #[.slice none 0 0,.iface 36 (.int .i64 x.fault)]) (by simp [results,Tryz.results58,go_sem]) rfl ⟨.slice none 0 0,?_,(Below.x1 hb1),?_,?_⟩
      · rw [HEF.out]
      · exact fun h=>absurd h HF.out
      · exact fun _=>rfl
end
end Go.Proofs.YtchngeagnlngaaaGreatDoor
end
section
namespace Gal
open Go Go.RowKit
theorem mats_cells {w:World} {F:Nat→Prop} {a:Option Addr} {n k b o:Nat} {ms:List Mat} {i:Nat} (h:RowAt Form.mat w F a n k b o ms) (hi:i<n) :
  ∃ a1 n1 k1 b1 o1,Cells3 w b (o+i*3) (.int .i64 (mx ms i).rows) (.int .i64 (mx ms i).cols) (.slice a1 n1 k1)∧IntsAt w a1 n1 k1 b1 o1 (mx ms i).cells:=by
 have hx:ms[i]?=some (mx ms i):=by unfold mx;rw [List.getElem?_eq_getElem (by have:=h.len;omega)];rfl
 obtain ⟨cs,⟨a1,n1,k1,b1,o1,rfl,_,x1⟩,hc⟩:=h.cell i _ hx
 exact ⟨a1,n1,k1,b1,o1,⟨hc 0 (by decide),hc 1 (by decide),hc 2 (by decide)⟩,x1⟩
theorem cells33c {w:World} {b c i j:Nat} {x y z x' y' z':Value} (h:Cells3 w b i x y z) (k:Cells3 w c j x' y' z') :
  w.cell? ⟨b,i,none⟩=some x∧w.cell? ⟨b,i+1,none⟩=some y∧w.cell? ⟨b,i+2,none⟩=some z∧w.cell? ⟨c,j,none⟩=some x'∧w.cell? ⟨c,j+1,none⟩=some y'∧w.cell? ⟨c,j+2,none⟩=some z':=⟨h.c0,h.c1,h.c2,k.c0,k.c1,k.c2⟩
end Gal
namespace Go.Proofs.YtchngeagnlngaaaGreatDoor
open Go.RowKit Gal Go.ChangeShapes Go.WideShapes
set_option maxRecDepth 100000
set_option maxRecDepth 100000
set_option maxHeartbeats 4000000
end Go.Proofs.YtchngeagnlngaaaGreatDoor
end
section
namespace Go.Proofs.YtchngeagnlngaaaGreatDoor
open Go.RowKit Go.Shelf Gal
attribute [local go_sem] Oper.semAt_some
set_option maxRecDepth 100000 in
set_option maxHeartbeats 2000000 in
theorem apart1_stops (n:Nat) (hn:1≤n) (p q n₀:Nat) (N:Nat) (r0 c0 r1 c1:Int) (a0 a1:Option Addr) (k0 k1 b0 b1 o0 o1:Nat) (xs ys:List Int) (w:World) (hn₀:n₀≤w.heap.size)
  (hp:Box w p [.int .i64 r0,.int .i64 c0,.slice a0 N k0] 41) (hpl:p<n₀) (hq:Box w q [.int .i64 r1,.int .i64 c1,.slice a1 N k1] 41) (hql:q<n₀)
  (hx:IntsAt w a0 N k0 b0 o0 xs) (hxl:0<N→b0<n₀) (hy:IntsAt w a1 N k1 b1 o1 ys) (hyl:0<N→b1<n₀) :
  SeqStopsK Fence.wide n Tryz.prog 102 #[.pointer (some ⟨p,0,none⟩),.pointer (some ⟨q,0,none⟩)] (fun x:Int=>#[Value.int .i64 x]) (Below n₀)
   (fun l=>l=offs xs ys N) (fun _=>True) N w:=fun l J Jx W hW _ _ hY hJ0=>by
 have hmx:=hx.max
 unfold maxLen at hmx
 have Bp:=(hp.below hW (by omega))
 have Bq:=(hq.below hW (by omega))
 have Bpc:=Bp.cell
 have HY:=Lib.hid hY
 clear hY
 refine callsIn_of_wp Tryz.func102 rfl trivial ?_ rfl
 simp only [Tryz.ntmps102,List.size_toArray,List.length_cons,List.length_nil,Nat.reduceAdd,Nat.reduceSub,Array.replicate_succ,Array.replicate_zero,List.push_toArray,List.append_toArray,List.nil_append,List.cons_append]
 gi_wp2
 gi_loopw [9] (fun i wr=>∃ k:Nat,k≤N∧i=.int .i64 k∧J (offs xs ys k) wr∧Below n₀ W wr) (fun i _=>N - (intOf i).toNat)
 case atStart=>exact ⟨0,Nat.zero_le _,rfl,hJ0,Below.refl _ _⟩
 case round=>
  obtain ⟨k,hk,rfl,hJs,hnx⟩:=hrel
  have HJ:=Lib.hid hJs
  clear hJs
  by_cases hlt:k<N
  ·have hN:0<N:=by omega
   obtain rfl:=hx.ptr hN
   obtain rfl:=hy.ptr hN
   have cx:=((hW.mono hn₀).cell (p:=⟨b0,o0+k,none⟩) (hxl hN)).trans (hx.cell k hlt)
   have cy:=((hW.mono hn₀).cell (p:=⟨b1,o1+k,none⟩) (hyl hN)).trans (hy.cell k hlt)
   have cx':=(hnx.cell (p:=⟨b0,o0+k,none⟩) (hxl hN)).trans cx
   have cy':=(hnx.cell (p:=⟨b1,o1+k,none⟩) (hyl hN)).trans cy
   have Bqr:=(Bq.below hnx hql).cell
   clear cx cy
   obtain ⟨fn,tmps,assign,body,hy',hR⟩:=HY.out _ (sub (ix xs k) (ix ys k)) wr HJ.out (by unfold offs;rw [upto_length];exact hlt)
   have HR:=Lib.hid hR
   clear hR
   gi_wp2_with (refine ⟨trivial,?_⟩;gi_at_call 103;refine (callsIn_wide.2 (sub_any _ _ _)).mono ?_;rintro e w' ⟨rfl,rfl⟩)
   refine HR.out.mono ?_
   rintro e W3 (⟨rfl,hJ3,hk3⟩|⟨rfl,hJx3⟩)
   ·have HJ3:=Lib.hid hJ3
    clear hJ3
    gi_wp2
    go_roundw
    case rel=>exact ⟨k+1,by omega,by simp,by unfold offs;rw [upto_succ];exact HJ3.out,hnx.trans hk3⟩
    case measure=>simp [intOf];omega
   ·gi_wp2
    refine bodyPost_ret (results_none rfl _ _ _) rfl ?_
    exact ⟨⟨_,rfl⟩,.inr ⟨_,trivial,hJx3⟩⟩
  ·obtain rfl:k=N:=by omega
   gi_wp2
   go_end0
   exact ⟨⟨_,rfl⟩,.inl ⟨_,rfl,HJ.out⟩⟩
set_option maxRecDepth 100000 in
set_option maxHeartbeats 1000000 in
theorem apart_ok (ma mb:Mat) (a0 a1:Option Addr) (n0 n1 k0 k1 b0 b1 o0 o1:Nat) (w:World) (h0:IntsAt w a0 n0 k0 b0 o0 ma.cells) (h1:IntsAt w a1 n1 k1 b1 o1 mb.cells) (hf:lossFault ma mb=0) :
  Calls Tryz.prog 87 #[.agg #[.int .i64 ma.rows,.int .i64 ma.cols,.slice a0 n0 k0],.agg #[.int .i64 mb.rows,.int .i64 mb.cols,.slice a1 n1 k1]] w fun e w'=>
   e=.returned (.tuple #[.func (.func 102) #[] #[.pointer (some ⟨w.heap.size,0,none⟩),.pointer (some ⟨w.heap.size+1,0,none⟩)],.nilIface]) ∧
   Box w' w.heap.size [.int .i64 ma.rows,.int .i64 ma.cols,.slice a0 n0 k0] 41∧Box w' (w.heap.size+1) [.int .i64 mb.rows,.int .i64 mb.cols,.slice a1 n1 k1] 41∧Below w.heap.size w w':=by
 obtain ⟨fa,fb,hr,hc⟩:=lossFault_ok hf
 have hE0:errV (matFault ma.rows ma.cols ma.cells)=.nilIface:=errV_nil fa
 have hE1:errV (matFault mb.rows mb.cols mb.cells)=.nilIface:=errV_nil fb
 have e1:(ma.rows != mb.rows)=false:=by simp [hr]
 have e2:(ma.cols != mb.cols)=false:=by simp [hc]
 clear hf fa fb hr hc
 go_enter Tryz.func87,Tryz.ntmps87
 go_wp2_with fail
 refine (matCheck_any _ _ _ _ _ _ _ ma.cells _ (h0.alloc _ |>.alloc _)).mono ?_
 rintro e w1 ⟨rfl,hb1⟩
 have B0:=((Box.new w _ 41).alloc _).keep hb1
 have B0c:=B0.cell
 have B0f:=B0.thawed
 have B0z:=B0.lt
 have B0k:=lt_add B0z
 have B1:=(Box.new' _ (w.heap.size+1) _ 41 (by simp)).keep hb1
 have B1c:=B1.cell
 have B1f:=B1.thawed
 have B1z:=B1.lt
 have B1k:=lt_add B1z
 have hkw1:Below w.heap.size w w1:=(Below.x1 hb1)
 replace h0:=h0.keep hkw1
 replace h1:=h1.keep hkw1
 go_wp2_with fail
 refine (matCheck_any _ _ _ _ _ _ _ mb.cells _ h1).mono ?_
 rintro e w2 ⟨rfl,hb2⟩
 have hkw2:Below w1.heap.size w1 w2:=(Below.x1 hb2)
 replace B0:=B0.keep hkw2
 replace B0c:=B0.cell
 replace B0f:=B0.thawed
 replace B0z:=B0.lt
 replace B0k:=lt_add B0z
 replace B1:=B1.keep hkw2
 replace B1c:=B1.cell
 replace B1f:=B1.thawed
 replace B1z:=B1.lt
 replace B1k:=lt_add B1z
 go_wp2
 go_ret2
 exact ⟨rfl,B0,B1,(Below.x2 hb2 hb1)⟩
set_option maxRecDepth 100000 in
set_option maxHeartbeats 2000000 in
theorem lossOf_ok (ma mb:Mat) (va vb:Value) (w:World) (ha:MatAt w va ma) (hb:MatAt w vb mb) (hf:lossFault ma mb=0) :
  Calls Tryz.prog 59 #[va,vb] w fun e w'=>e=.returned (.tuple #[.int .i64 (lossOf ma mb),.nilIface])∧Below w.heap.size w w':=by
 obtain ⟨a0,n0,k0,b0,o0,rfl,h0⟩:=ha
 obtain ⟨a1,n1,k1,b1,o1,rfl,h1⟩:=hb
 obtain ⟨fa,fb,hr,hc⟩:=lossFault_ok hf
 have hn:n0=n1:=by
  obtain ⟨R,C,e1,e2,_,_,e3,_⟩:=matFault_ok fa
  obtain ⟨R',C',e1',e2',_,_,e3',_⟩:=matFault_ok fb
  have q1:=h0.len
  have q2:=h1.len
  have r1:R=R':=by omega
  have r2:C=C':=by omega
  subst r1 r2
  omega
 subst hn
 have HF:=Lib.hid hf
 clear hf fa fb hr hc
 refine (callsIn_wide (n:=6)).1 ?_
 refine callsIn_of_wp_marks Tryz.func59 rfl trivial ?_ rfl
 simp only [Tryz.ntmps59,List.size_toArray,List.length_cons,List.length_nil,Nat.reduceAdd,Nat.reduceSub,Array.replicate_succ,Array.replicate_zero,List.push_toArray,List.append_toArray,List.nil_append,List.cons_append]
 gi_wp2_with fail
 refine ⟨trivial,?_⟩
 refine (callsIn_wide.2 (apart_ok ma mb _ _ _ _ _ _ _ _ _ _ _ (h0.alloc _ |>.alloc _) (h1.alloc _ |>.alloc _) HF.out)).mono ?_
 rintro e w2 ⟨rfl,Ba,Bb,hb2⟩
 simp only [World.size_alloc] at Ba Bb
 have hk2:Below w.heap.size w w2:=(Below.x1 hb2)
 have x0:=h0.keep hk2
 have x1:=h1.keep hk2
 have z2:=Bb.lt
 gi_wp2
 have hz3:w.heap.size+1+1+1<w2.heap.size:=z2
 have hS:Box (w2.alloc (.cells #[.int .i64 0] 3)) w2.heap.size [.int .i64 0] 3:=Box.new w2 _ _
 refine wpIn_rangeFunc_ownF rfl (by decide) (gf:=102) (lb:=#[.pointer (some ⟨w.heap.size+1+1,0,none⟩),.pointer (some ⟨w.heap.size+1+1+1,0,none⟩)]) rfl trivial (enters_of Tryz.func102 (by kernel_rfl) rfl)
  (apart1_stops 5 (by decide) (w.heap.size+1+1) (w.heap.size+1+1+1) w2.heap.size n0 _ _ _ _ a0 a1 k0 k1 b0 b1 o0 o1 ma.cells mb.cells (w2.alloc (.cells #[.int .i64 0] 3)) (by simp) (Ba.alloc _) (by omega) (Bb.alloc _) (by omega) (x0.alloc _) x0.lt (x1.alloc _) x1.lt)
  belowK_t (belowK_b (by simp)) (Below.refl _ _) (fun _=>rfl)
  (fun pre W=>(W.cell? ⟨w2.heap.size,0,none⟩=some (.int .i64 (sqSum pre))∧W.frozen? ⟨w2.heap.size,0,none⟩=false)∧Below w.heap.size w W)
  (fun _ _ _=>False)
  (OwnFrom.and (Own.from (fun s A B row hs hg hr=>⟨cell_kept hs.1 hg hr,(frozen_kept hs.1 hg hr).trans hs.2⟩) _) (ownFrom_below (by have:=hk2.size;first|omega|(simp;omega)|simp) (by have:=hk2.size;first|omega|(simp;omega)|simp)))
  (fun _ _ _ _ _ hs _ _=>hs)
  ⟨⟨hS.cell 0,hS.thawed 0⟩,hk2.al _⟩
  (fun x=>{ tmps:=#[.agg #[.int .i64 ma.rows,.int .i64 ma.cols,.slice a0 n0 k0],.agg #[.int .i64 mb.rows,.int .i64 mb.cols,.slice a1 n0 k1],.pointer (some ⟨w.heap.size,0,none⟩),.pointer (some ⟨w.heap.size+1,0,none⟩),.int .i64 0,.nilIface,
   .func (.func 102) #[] #[.pointer (some ⟨w.heap.size+1+1,0,none⟩),.pointer (some ⟨w.heap.size+1+1+1,0,none⟩)],.nilIface,.pointer (some ⟨w2.heap.size,0,none⟩),.int .i64 x,
   .tuple #[.func (.func 102) #[] #[.pointer (some ⟨w.heap.size+1+1,0,none⟩),.pointer (some ⟨w.heap.size+1+1+1,0,none⟩)],.nilIface],.agg #[.int .i64 ma.rows,.int .i64 ma.cols,.slice a0 n0 k0],.agg #[.int .i64 mb.rows,.int .i64 mb.cols,.slice a1 n0 k1],
   .tuple #[.func (.func 102) #[] #[.pointer (some ⟨w.heap.size+1+1,0,none⟩),.pointer (some ⟨w.heap.size+1+1+1,0,none⟩)],.nilIface],.func (.func 102) #[] #[.pointer (some ⟨w.heap.size+1+1,0,none⟩),.pointer (some ⟨w.heap.size+1+1+1,0,none⟩)],.nilIface,.nilIface,.bool false,undef,
   .func (.func 102) #[] #[.pointer (some ⟨w.heap.size+1+1,0,none⟩),.pointer (some ⟨w.heap.size+1+1+1,0,none⟩)],.int .i64 x,undef,undef,undef,undef,undef,undef,undef],defers:=[] }) ?assign ?body ?done ?stop
 case assign=>
  intro l x W K hK
  gi_wp2
  exact hK
 case body=>
  rintro l pre x W ⟨⟨hc,hf⟩,hB⟩ _
  have hmx:Tryz.prog.follows .mixedOrders=true:=by kernel_rfl
  gi_wp2
  gi_region_with_o (first|(refine ⟨trivial,?_⟩;gi_at_call 88;refine (CallsIn.inRound l (callsIn_wide.2 (mul_any _ _ _))).mono ?_;rintro e w' ⟨rfl,rfl⟩)|(refine ⟨trivial,?_⟩;gi_at_call 63;refine (CallsIn.inRound l (callsIn_wide.2 (add_any _ _ _))).mono ?_;rintro e w' ⟨rfl,rfl⟩))
  all_goals gi_wp2
  all_goals exact ⟨(KeepsOthers.setCell _ _ _).trans (KeepsOthers.drew _),((Below.refl w2.heap.size W).setCell (p:=⟨w2.heap.size,0,none⟩) (Nat.le_refl _) _).drew,⟨by rw [sqSum_snoc];exact World.cell?_setCell_same' _ _ _ (by rw [hc];rfl),by rw [frozen_drew_own,World.frozen?_setCell];exact hf⟩,
   (hB.setCell (p:=⟨w2.heap.size,0,none⟩) (by have:=hk2.size;dsimp only;omega) _).drew⟩
 case done=>
  rintro D l W hD rfl ⟨⟨hc,hf⟩,hB⟩ hK
  gi_wp2_with (refine ⟨trivial,?_⟩;gi_at_call 88;refine (callsIn_wide.2 (mul_any _ _ _)).mono ?_;rintro e w' ⟨rfl,rfl⟩)
  refine ⟨by simp,.inl ⟨_,_,rfl,run_takeDeferred hK,?_⟩⟩
  refine ⟨_,results_tmp2 rfl _ _ _,?_,hB.trans (belowK_b (w:=w) (Nat.le_refl _) W D _ _ (by have:=hk2.size;simp at hD;omega) hK rfl rfl)⟩
  unfold lossOf
  rw [h0.len]
  rfl
 case stop=>
  rintro D c pre W _ _ h _
  exact h.elim
end Go.Proofs.YtchngeagnlngaaaGreatDoor
end
