/- Texts joined: Keep3, PKeep2, Wire3. -/
import Derived.Test.YtchngeagnlngaaaGreatDoorJ37
import Derived.Test.YtchngeagnlngaaaGreatDoorJ08
import Derived.Deep.RegionHeld3
import Derived.Deep.CutBlock
import Derived.Deep.DeepCutAuto
import Derived.Test.YtchngeagnlngaaaGreatDoorJ36
import Derived.Test.YtchngeagnlngaaaGreatDoorJ05
import Derived.BigQuiet
import Derived.Laws.Bits64
import Derived.IntWalk
set_option linter.unusedVariables false
set_option linter.unusedSimpArgs false
set_option linter.unusedSectionVars false
section
set_option maxRecDepth 100000
namespace Gal
open Go Go.RowKit
theorem cells_14 {w:World} {p q c j:Nat} {s0 s1 s2 l0 l1 l2 l3 l4 l5 l6 x0 x1 x2 x3 x4 x5:Value} {T U:TypeId} (s:Box w p [s0,s1,s2] T) (l:Box w q [l0,l1,l2,l3,l4,l5,l6] U) (m:Cells6 w c j x0 x1 x2 x3 x4 x5) :
  w.cell? ⟨p,1,none⟩=some s1∧(w.cell? ⟨q,1,none⟩=some l1∧w.cell? ⟨q,2,none⟩=some l2∧w.cell? ⟨q,3,none⟩=some l3∧w.cell? ⟨q,4,none⟩=some l4∧w.cell? ⟨q,5,none⟩=some l5∧w.cell? ⟨q,6,none⟩=some l6) ∧
   w.cell? ⟨c,j,none⟩=some x0∧w.cell? ⟨c,j+1,none⟩=some x1∧w.cell? ⟨c,j+2,none⟩=some x2∧w.cell? ⟨c,j+3,none⟩=some x3∧w.cell? ⟨c,j+4,none⟩=some x4∧w.cell? ⟨c,j+5,none⟩=some x5:=
 ⟨s.cell 1,⟨l.cell 1,l.cell 2,l.cell 3,l.cell 4,l.cell 5,l.cell 6⟩,m.c0,m.c1,m.c2,m.c3,m.c4,m.c5⟩
end Gal
namespace Go.Proofs.YtchngeagnlngaaaGreatDoor
open Go.RowKit Gal
set_option maxHeartbeats 8000000
theorem PenAt.low {w:World} {R base p:Nat} {v:Value} {xs:List Nat} (h:PenAt w R base v xs) (hR:base≤R) (hp:p<base):Apart R v p:=⟨by omega,fun e=>by have:=(h.2.1.base_le p e).1;omega⟩
theorem keepSave_ok (s:Sta) (F G:Nat→Prop) (a0 a1:Option Addr) (n n1 k0 k1 b0 b1 o0 o1:Nat) (w:World) (h0:RowAt Form.lay w F a0 n k0 b0 o0 s.N) (h1:RowAt Form.grd w G a1 n1 k1 b1 o1 s.V) (hf:s.fault=0) :
  Calls Tryz.prog 12 #[.agg #[.slice a0 n k0,.slice a1 n1 k1,.int .i64 s.steps]] w fun e w'=>∃ v err,e=.returned (.tuple #[v,err])∧Below w.heap.size w w' ∧
   (((staBytes s).length≤100000∧err=.nilIface∧OwnRow Form.u8 5 w' w.heap.size noK v (staBytes s))∨(100000<(staBytes s).length∧v=.slice none 0 0∧err=errV 3)):=by
 have HE:Hid (errV s.fault=.nilIface):=Lib.hid (errV_nil hf)
 obtain ⟨hn12,hst0,hst1,hlf,hvl,hvf⟩:=Sta.fault_ok hf
 have hl0:=h0.len
 have hl1:=h1.len
 obtain rfl:n1=n:=by omega
 have HPT:Hid (∀ k,k<n1→1≤(lx s.N k).kind∧(lx s.N k).kind≤4∧∀ j,(q4 (lx s.N k) (gx s.V k) j).fault=0):=Lib.hid (fun k hk=>st_part hf (by omega))
 have HNL:Hid (∀ k,k≤n1→((netNums s.N s.V k).flatMap seven).length≤10449*k):=Lib.hid (fun k hk=>netNums_len hf k (by omega))
 have HHL:=Lib.hid (headOf_len hf)
 have HHD:Hid (headOf s=[71,1]++seven s.steps.toNat++seven n1):=Lib.hid (by unfold headOf;rw [hl0])
 have HBY:Hid (staBytes s=withSums (headOf s++(netNums s.N s.V n1).flatMap seven)):=Lib.hid (by rw [staBytes_is,hl0])
 have HL1:=Lib.hid hl1
 have hn:n1≤12:=by omega
 obtain ⟨i0,hi,hz0,hz1,hz2⟩:=info_parts info_byte
 clear hf hlf hvl hvf hn12 hl0 hl1
 go_enter Tryz.func12,Tryz.ntmps12
 go_wp2_with fail
 refine (trainCheck_any s F G _ _ _ _ _ _ _ _ _ _ _ (h0.alloc _) (h1.alloc _)).mono ?_
 rw [HE.out]
 rintro e w1 ⟨rfl,hb1⟩
 have B1:=(Box.new w [.slice a0 n1 k0,.slice a1 n1 k1,.int .i64 s.steps] 30).keep hb1
 have B1c:=B1.cell
 have B1f:=B1.thawed
 have B1z:=B1.lt
 have B1k:=lt_add B1z
 have hbw1:Below w.heap.size w w1:=(Below.x1 hb1)
 clear hb1
 obtain ⟨B0,hB0⟩:∃ B0,w1.heap.size=B0:=⟨_,rfl⟩
 obtain ⟨oa,hoa⟩:∃ oa:Obj,Obj.cells #[.int .u8 71,.int .u8 1] 5=oa:=⟨_,rfl⟩
 obtain ⟨op,hop⟩:∃ op:Obj,Obj.cells #[.slice (some ⟨B0,0,none⟩) 2 2] 81=op:=⟨_,rfl⟩
 obtain ⟨w2,hw2⟩:∃ w2,(w1.alloc oa).alloc op=w2:=⟨_,rfl⟩
 have hbx:Below w1.heap.size w1 w2:=by rw [← hw2];exact Below.x0
 have hA:Box w2 B0 ([71,1].map fun (x:Nat)=>Value.int .u8 (x:Int)) 5:=by rw [← hw2,← hoa,← hB0];exact (Box.new' _ _ [.int .u8 71,.int .u8 1] _ rfl).alloc _
 have hR:Box w2 (B0+1) [.slice (some ⟨B0,0,none⟩) 2 2] 81:=by rw [← hw2,← hop];exact Box.new' _ _ [.slice (some ⟨B0,0,none⟩) 2 2] _ (by simp [hB0])
 have hp2:PenAt w2 (B0+1) B0 (.slice (some ⟨B0,0,none⟩) 2 2) [71,1]:=⟨hR,own_bytes hA (by decide) (Nat.le_refl _) (by decide),by simp [Value.ownBlock]⟩
 have hbw2:Below w.heap.size w w2:=hbw1.trans (hbx.mono hbw1.size)
 have hB2:=B1.keep hbx
 have hwB:w.heap.size<B0:=by have:=B1.lt;omega
 have hs2:B0+2≤w2.heap.size:=by have:=hR.lt;omega
 obtain ⟨v2,hv2⟩:∃ v2,Value.slice (some ⟨B0,0,none⟩) 2 2=v2:=⟨_,rfl⟩
 have HOA:=Lib.hid hoa
 have HOP:=Lib.hid hop
 have HW2:=Lib.hid hw2
 have HB0:=Lib.hid hB0
 have S2:=B1.cell 2
 rw [hv2] at hp2
 have HV2:Hid (∀ c,v2.ownBlock=some c→c=B0):=Lib.hid (fun c hc=>by rw [← hv2] at hc;simpa [Value.ownBlock] using hc.symm)
 clear hoa hop hw2 hA hR hbx hbw1 hv2 B1 B1c B1f B1k
 go_wp2_with fail
 rw [HOA.out,HOP.out,HW2.out]
 refine (penNumber_any [71,1] s.steps v2 (B0+1) B0 w2 ⟨hst0,by omega⟩ hp2 (by decide) (by omega)).mono ?_
 rintro e w3 ⟨v3,rfl,hp3,hg3⟩
 have hapS:Apart (B0+1) v2 w.heap.size:=hp2.low (by omega) hwB
 have hB3:=hB2.pen hg3 hapS
 have hs3:B0≤w3.heap.size:=by have:=hg3.far.size;omega
 have S0:=hB3.cell 0
 have hsv:=seven_9 (x:=s.steps.toNat) (by omega)
 clear B1z S2
 go_wp2_with fail
 refine (penNumber_any _ (n1:Int) v3 (B0+1) B0 w3 ⟨by omega,by omega⟩ hp3 (by simp only [List.length_append,List.length_cons,List.length_nil];omega) hs3).mono ?_
 rintro e w4 ⟨v4,rfl,hp4,hg4⟩
 have hg:=hg3.trans hg4
 have hB4:=hB2.pen hg hapS
 rw [Int.toNat_natCast,← HHD.out] at hp4
 have hs4:w2.heap.size≤w4.heap.size:=hg.far.size
 clear S0 hp3 hg3 hg4 hB3 hs3 hsv hp2
 have S0:=hB4.cell 0
 go_wp2
 go_loopw [32] (fun i wr=>∃ (t:Nat) (u:Value),t≤n1∧i=.int .i64 t∧PenAt wr (B0+1) B0 u (headOf s++(netNums s.N s.V t).flatMap seven)∧PenGo (B0+1) w2 wr v2 u) (fun i _=>n1 - (intOf i).toNat)
 case atStart=>exact ⟨0,v4,Nat.zero_le _,rfl,by simpa [netNums] using hp4,hg⟩
 case round=>
  clear hB4 S0 hp4 hg hs4
  obtain ⟨t,u,ht,rfl,hpr,hgr⟩:=hrel
  have hBr:=hB2.pen hgr hapS
  have hsr:w2.heap.size≤wr.heap.size:=hgr.far.size
  have hbr:Below w.heap.size w wr:=Far.toBelow hbw2 hgr.far hbw2.size (by
   rintro c (h|h)
   ·omega
   ·have:=HV2.out c h;omega)
  by_cases hlt:t<n1
  ·have hltI:(t:Int)<(n1:Int):=by omega
   have hlt0:(0:Int)≤(t:Int):=by omega
   obtain rfl:=h0.ptr (by omega)
   obtain rfl:=h1.ptr (by omega)
   obtain ⟨a2,n2,k2,b2,o2,a3,n3,k3,b3,o3,c0,c1,c2,c3,c4,c5,c6,x1,x2⟩:=lay_cells h0 hlt
   obtain ⟨a4,n4,k4,b4,o4,a5,n5,k5,b5,o5,d0,d1,d2,d3,d4,d5,y1,y2⟩:=grd_cells h1 (gx_get (i:=t) (by rw [HL1.out];exact hlt))
   obtain ⟨kd0,kd1,hq4⟩:=HPT.out t hlt
   have hnl:=HNL.out t ht
   have hhl:=HHL.out
   have HNX:=Lib.hid (netNums_next s.N s.V t (headOf s))
   obtain ⟨l,hl⟩:∃ l,lx s.N t=l:=⟨_,rfl⟩
   obtain ⟨g,hgx⟩:∃ g,gx s.V t=g:=⟨_,rfl⟩
   rw [hl] at c0 c1 c2 c4 c5 x1 x2 kd0 kd1 hq4 HNX
   rw [hgx] at hq4 d0 d1 d3 d4 y1 y2 HNX
   have HQ4:=Lib.hid hq4
   have HIX:Hid (∀ j,j<4→∃ (a:Option Addr) (n k b o:Nat),[Value.int .i64 l.W.rows,.int .i64 l.W.cols,.slice a2 n2 k2,.int .i64 l.B.rows,.int .i64 l.B.cols,.slice a3 n3 k3,.int .i64 g.W.rows,.int .i64 g.W.cols,.slice a4 n4 k4,.int .i64 g.B.rows,.int .i64 g.B.cols,.slice a5 n5 k5][j*3]?=some (.int .i64 (q4 l g j).rows)∧[Value.int .i64 l.W.rows,.int .i64 l.W.cols,.slice a2 n2 k2,.int .i64 l.B.rows,.int .i64 l.B.cols,.slice a3 n3 k3,.int .i64 g.W.rows,.int .i64 g.W.cols,.slice a4 n4 k4,.int .i64 g.B.rows,.int .i64 g.B.cols,.slice a5 n5 k5][j*3+1]?=some (.int .i64 (q4 l g j).cols)∧[Value.int .i64 l.W.rows,.int .i64 l.W.cols,.slice a2 n2 k2,.int .i64 l.B.rows,.int .i64 l.B.cols,.slice a3 n3 k3,.int .i64 g.W.rows,.int .i64 g.W.cols,.slice a4 n4 k4,.int .i64 g.B.rows,.int .i64 g.B.cols,.slice a5 n5 k5][j*3+2]?=some (.slice a n k)∧IntsAt w a n k b o (q4 l g j).cells):=Lib.hid (fun j hj=>by
    match j,hj with
    | 0,_=>exact ⟨a2,n2,k2,b2,o2,rfl,rfl,rfl,x1⟩
    | 1,_=>exact ⟨a3,n3,k3,b3,o3,rfl,rfl,rfl,x2⟩
    | 2,_=>exact ⟨a4,n4,k4,b4,o4,rfl,rfl,rfl,y1⟩
    | 3,_=>exact ⟨a5,n5,k5,b5,o5,rfl,rfl,rfl,y2⟩)
   clear hl hgx hq4 x1 x2 y1 y2
   replace c0:=cell_keep' hbr c0
   replace c1:=cell_keep' hbr c1
   replace c2:=cell_keep' hbr c2
   replace c3:=cell_keep' hbr c3
   replace c4:=cell_keep' hbr c4
   replace c5:=cell_keep' hbr c5
   replace c6:=cell_keep' hbr c6
   have MV0:Cells6 w b1 (o1+t*6) (.int .i64 g.W.rows) (.int .i64 g.W.cols) (.slice a4 n4 k4) (.int .i64 g.B.rows) (.int .i64 g.B.cols) (.slice a5 n5 k5):=⟨d0,d1,d2,d3,d4,d5⟩
   clear d0 d1 d2 d3 d4 d5
   obtain ⟨ol,hol⟩:∃ ol:Obj,Obj.cells #[.int .i64 l.kind,.int .i64 l.W.rows,.int .i64 l.W.cols,.slice a2 n2 k2,.int .i64 l.B.rows,.int .i64 l.B.cols,.slice a3 n3 k3] 84=ol:=⟨_,rfl⟩
   obtain ⟨wL,hwL⟩:∃ wL,wr.alloc ol=wL:=⟨_,rfl⟩
   obtain ⟨p,hp⟩:∃ p,wr.heap.size=p:=⟨_,rfl⟩
   have hbl:Below wr.heap.size wr wL:=by rw [← hwL];exact Below.x0
   have hLx:Box wL p [.int .i64 l.kind,.int .i64 l.W.rows,.int .i64 l.W.cols,.slice a2 n2 k2,.int .i64 l.B.rows,.int .i64 l.B.cols,.slice a3 n3 k3] 84:=by rw [← hwL,← hol,← hp];exact Box.new _ _ _
   have hpL:=hpr.keep hbl
   have hapL:Apart (B0+1) u p:=hpr.apart (Nat.le_of_eq hp)
   have hBL:=hBr.keep hbl
   have hbwL:Below w.heap.size w wL:=hbr.trans (hbl.mono hbr.size)
   have hsL:w2.heap.size≤wL.heap.size:=Nat.le_trans hsr hbl.size
   have HOL:=Lib.hid hol
   have HWL:=Lib.hid hwL
   have k0':=hLx.cell 0
   clear hol hwL
   go_wp2_with fail
   rw [HOL.out,HWL.out]
   try rw [hp]
   refine (penNumber_any _ l.kind u (B0+1) B0 wL ⟨by omega,by omega⟩ hpL (by rw [List.length_append];omega) (by omega)).mono ?_
   rintro e w5 ⟨u5,rfl,hp5,hg5⟩
   have hL5:=hLx.pen hg5 hapL
   have hB5:=hBL.pen hg5 (hpL.low (by omega) hwB)
   have hbw5:Below w.heap.size w w5:=Far.toBelow hbwL hg5.far hbwL.size (by
    rintro c (h|h)
    ·omega
    ·have:=(hpL.2.1.base_le c h).1;omega)
   have hgr5:=(hgr.post hbl).trans hg5
   have hs5:w2.heap.size≤w5.heap.size:=Nat.le_trans hsL hg5.far.size
   have MV:=MV0.keep hbw5
   clear k0' hLx hBL hapL hpL hbwL hbl hg5 c0 c1 c2 c3 c4 c5 c6 hpr hgr hBr hbr hsr MV0 hsL
   obtain ⟨H,hH⟩:∃ H,headOf s++(netNums s.N s.V t).flatMap seven++seven l.kind.toNat=H:=⟨_,rfl⟩
   have HHL2:Hid (H.length≤200000):=Lib.hid (by
    have:=seven_9 (x:=l.kind.toNat) (by omega)
    rw [← hH]
    simp only [List.length_append]
    omega)
   rw [hH] at hp5 HNX
   clear hH hhl hnl
   go_upto_region 11 with (fail)
   go_cut [57,58,59] (fun sl ln zz wx=>∃ Q,sl=.slice (some ⟨Q,0,none⟩) 4 4∧ln=.int .i64 4∧zz=.int .i64 0∧w5.heap.size≤Q∧Box wx Q [.int .i64 l.W.rows,.int .i64 l.W.cols,.slice a2 n2 k2,.int .i64 l.B.rows,.int .i64 l.B.cols,.slice a3 n3 k3,.int .i64 g.W.rows,.int .i64 g.W.cols,.slice a4 n4 k4,.int .i64 g.B.rows,.int .i64 g.B.cols,.slice a5 n5 k5] 41∧Below w5.heap.size w5 wx)
   case first=>
    clear hp5 hgr5 hbw5
    go_region_held3 (fun w'=>w'.cell? ⟨w.heap.size,1,none⟩=some (.slice (some ⟨b1,o1,none⟩) n1 k1)∧(w'.cell? ⟨p,1,none⟩=some (.int .i64 l.W.rows)∧w'.cell? ⟨p,2,none⟩=some (.int .i64 l.W.cols)∧w'.cell? ⟨p,3,none⟩=some (.slice a2 n2 k2)∧w'.cell? ⟨p,4,none⟩=some (.int .i64 l.B.rows)∧w'.cell? ⟨p,5,none⟩=some (.int .i64 l.B.cols)∧w'.cell? ⟨p,6,none⟩=some (.slice a3 n3 k3))∧w'.cell? ⟨b1,o1+t*6,none⟩=some (.int .i64 g.W.rows)∧w'.cell? ⟨b1,o1+t*6+1,none⟩=some (.int .i64 g.W.cols)∧w'.cell? ⟨b1,o1+t*6+2,none⟩=some (.slice a4 n4 k4)∧w'.cell? ⟨b1,o1+t*6+3,none⟩=some (.int .i64 g.B.rows)∧w'.cell? ⟨b1,o1+t*6+4,none⟩=some (.int .i64 g.B.cols)∧w'.cell? ⟨b1,o1+t*6+5,none⟩=some (.slice a5 n5 k5)) (exact cells_14 (show Box _ w.heap.size [.slice (some ⟨b0,o0,none⟩) n1 k0,.slice (some ⟨b1,o1,none⟩) n1 k1,.int .i64 s.steps] 30 from hB5.k) (show Box _ p [.int .i64 l.kind,.int .i64 l.W.rows,.int .i64 l.W.cols,.slice a2 n2 k2,.int .i64 l.B.rows,.int .i64 l.B.cols,.slice a3 n3 k3] 84 from hL5.k) (show Cells6 _ b1 (o1+t*6) (.int .i64 g.W.rows) (.int .i64 g.W.cols) (.slice a4 n4 k4) (.int .i64 g.B.rows) (.int .i64 g.B.cols) (.slice a5 n5 k5) from (by repeat (first|(with_reducible first|exact MV|refine Cells6.alloc ?_ _|refine Cells6.drewN ?_ _|refine Cells6.drew ?_|(refine Cells6.far ?_ ?_ _;rotate_left 1;(first|(dsimp only;omega)|omega|(simp;omega)|simp)))|exact MV)))) (fail)
    all_goals (
     go_wp2_with fail
     go_meet
     exact ⟨_,rfl,rfl,rfl,Nat.le_refl _,Box.x0,Below.x0⟩)
   case rest=>
    obtain ⟨Q,rfl,rfl,rfl,hQ,hQb,hbc⟩:=hcut
    obtain ⟨wc',hwc⟩:∃ wc',wc'=wc:=⟨_,rfl⟩
    subst hwc
    have hpc:=hp5.keep hbc
    have hgc:=hgr5.post hbc
    have hbwc:Below w.heap.size w wc':=hbw5.trans (hbc.mono hbw5.size)
    have hapQ:Apart (B0+1) u5 Q:=hp5.apart hQ
    have hsc:w2.heap.size≤wc'.heap.size:=Nat.le_trans hs5 hbc.size
    have hwBc:w.heap.size≤B0:=Nat.le_of_lt hwB
    clear hp5 hgr5 hbw5 hbc hL5 hB5 MV hQ hs5
    go_wp2
    go_loopw [59] (fun i wy=>∃ (j:Nat) (uj:Value),j≤4∧i=.int .i64 j∧PenAt wy (B0+1) B0 uj (H++(penTo l g j).flatMap seven)∧PenGo (B0+1) wc' wy u5 uj) (fun i _=>4 - (intOf i).toNat)
    case atStart=>exact ⟨0,u5,by decide,rfl,by simpa [penTo] using hpc,PenGo.refl _ _ _⟩
    case round=>
     obtain ⟨j,uj,hj,rfl,hpy,hgy⟩:=hrel
     have hQy:=hQb.pen hgy hapQ
     have hbwy:Below w.heap.size w wr:=Far.toBelow hbwc hgy.far hbwc.size (by
      rintro c (h|h)
      ·omega
      ·have:=(hpc.2.1.base_le c h).1;omega)
     have hsy:w2.heap.size≤wr.heap.size:=Nat.le_trans hsc hgy.far.size
     by_cases hj4:j<4
     ·have hjI:(j:Int)<4:=by omega
      have hj0:(0:Int)≤(j:Int):=by omega
      obtain ⟨ja,jn,jk,jb,jo,e0,e1,e2,xi⟩:=HIX.out j hj4
      have q0:=hQy.cell (j*3)
      have q1:=hQy.cell (j*3+1)
      have q2:=hQy.cell (j*3+2)
      rw [e0] at q0
      rw [e1] at q1
      rw [e2] at q2
      have hql:=penTo_len HQ4.out j
      have hhl:=HHL2.out
      have hms:=matNums_len_all (HQ4.out j)
      have hqf:=HQ4.out j
      have HPN:Hid ((penTo l g (j+1)).flatMap seven=(penTo l g j).flatMap seven++(matNums (q4 l g j)).flatMap seven):=Lib.hid (by rw [penTo,List.flatMap_append])
      obtain ⟨mj,hmj⟩:∃ mj,q4 l g j=mj:=⟨_,rfl⟩
      rw [hmj] at q0 q1 xi hqf HPN
      clear e0 e1 e2 hmj hQy
      have hba:Below wr.heap.size wr (wr.alloc (.cells #[.int .i64 mj.rows,.int .i64 mj.cols,.slice ja jn jk] 41)):=Below.x0
      go_wp2_with fail
      refine (penMatrix_any mj ja jn jk jb jo _ uj (B0+1) B0 _ (xi.keep (hbwy.trans (hba.mono hbwy.size))) hqf (hpy.keep hba) (fun h0=>hpy.low (by omega) (Nat.lt_of_lt_of_le (xi.lt h0) hwBc)) (by rw [List.length_append];omega) (by have:=hba.size;omega)).mono ?_
      rintro e w8 ⟨u8,rfl,hp8,hg8⟩
      rw [List.append_assoc,← HPN.out] at hp8
      have hg9:=hgy.trans (PenGo.pre hba hg8)
      clear hpy hgy hba hg8 hbwy q0 q1 q2 xi
      go_wp2
      go_roundw
      case rel=>exact ⟨j+1,u8,by omega,by go_num,hp8,hg9⟩
      case measure=>simp [intOf];omega
     ·obtain rfl:j=4:=by omega
      rw [HNX.out] at hpy
      have hgn:=hgc.trans hgy
      clear hQy hbwy hgy
      go_wp2
      go_roundw
      case rel=>exact ⟨t+1,uj,by omega,by go_num,hpy,hgn⟩
      case measure=>simp [intOf];omega
  ·obtain rfl:t=n1:=by omega
   obtain ⟨L,hL⟩:∃ L,headOf s++(netNums s.N s.V t).flatMap seven=L:=⟨_,rfl⟩
   have hLl:L.length≤200000:=by
    have h1:=HNL.out t (Nat.le_refl _)
    have h2:=HHL.out
    rw [← hL,List.length_append]
    omega
   rw [hL] at hpr
   obtain ⟨hBp,hown,hneR⟩:=hpr
   obtain ⟨x,hx⟩:∃ x,(prgSums L).1=x:=⟨_,rfl⟩
   obtain ⟨y,hy⟩:∃ y,(prgSums L).2=y:=⟨_,rfl⟩
   have hsl:=prgSums_lt L
   rw [hx,hy] at hsl
   have HBY2:Hid (staBytes s=L++[x,y]):=Lib.hid (by rw [HBY.out,hL];unfold withSums;rw [hx,hy])
   have HXY:Hid ((prgSums L).1=x∧(prgSums L).2=y):=Lib.hid ⟨hx,hy⟩
   clear hL hx hy
   obtain ⟨av,cv,bv,hu,_,hrow⟩:=hown.row (G:=anyB) (fun _ _ _=>trivial) (fun _ _=>trivial)
   have hUS:Hid (u=.slice av L.length cv):=Lib.hid hu
   subst hu
   have p0:=hBp.cell 0
   clear hBr
   go_wp2_with fail
   refine (keepSums_any L av L.length cv bv 0 anyB _ hrow).mono ?_
   rw [HXY.out.1,HXY.out.2]
   rintro e w5 ⟨rfl,hb5⟩
   have hBp5:=hBp.keep hb5
   have hown5:=hown.keep hb5
   have hg5:=hgr.post hb5
   have hs5:w2.heap.size≤w5.heap.size:=Nat.le_trans hsr hb5.size
   have hbw5:Below w.heap.size w w5:=hbr.trans (hb5.mono hbr.size)
   have q0:=hBp5.cell 0
   have hBX:Box (w5.alloc (.cells #[.int .u8 (x:Int),.int .u8 (y:Int)] 5)) w5.heap.size ([x,y].map fun (q:Nat)=>Value.int .u8 (q:Int)) 5:=Box.new' _ _ [.int .u8 (x:Int),.int .u8 (y:Int)] _ rfl
   have hrx:RowAt Form.u8 (w5.alloc (.cells #[.int .u8 (x:Int),.int .u8 (y:Int)] 5)) anyB (some ⟨w5.heap.size,0,none⟩) 2 2 w5.heap.size 0 [x,y]:=u8_box hBX (by intro z hz;simp at hz;omega) (by unfold maxLen;simp) trivial
   have hba:Below w5.heap.size w5 (w5.alloc (.cells #[.int .u8 (x:Int),.int .u8 (y:Int)] 5)):=Below.x0
   clear p0 hBX hrow hb5 hown hBp hgr hsr hbr
   go_wp2_with (at_builtin;go_must (refine wpList_append_flat rfl (.tmp 80) (.tmp 83) 54 rfl Form.u8 u8_plainly B0 noK 5 i0 (.int .u8 0) 1 Tryz.underlying54 hi hz0 hz1 hz2 rfl (by decide) _ L rfl (hown5.keep hba) anyB (some ⟨w5.heap.size,0,none⟩) 2 2 w5.heap.size 0 [x,y] rfl hrx (by omega) (by unfold maxLen;omega) (by have:=hba.size;omega) ?_))
   intro v' w' hown' hgrow hlies
   replace hlies:∀ g,v'.ownBlock=some g→Value.ownBlock (.slice av L.length cv)=some g∨w5.heap.size≤g:=fun g hg=>(hlies g hg).imp_right (fun h=>by omega)
   obtain ⟨a9,k9,hv9⟩:=hown'.slice
   rw [show (L++[x,y]).length=L.length+2 by simp] at hv9
   subst hv9
   have HST:=Lib.hid (pen_store (T:=81) hBp5 hneR hba hgrow hlies hown')
   have HGO:=Lib.hid (hg5.store hba hgrow hlies (.slice a9 (L.length+2) k9))
   have hB':Box w' (B0+1) [.slice av L.length cv] 81:=(hBp5.keep hba).grown hgrow (fun e=>hneR e.symm)
   have f0:=hB'.thawed 0
   have d0:=hB'.cell 0
   obtain ⟨wq,hwq⟩:∃ wq,w'.setCell ⟨B0+1,0,none⟩ (.slice a9 (L.length+2) k9)=wq:=⟨_,rfl⟩
   rw [hwq] at HST HGO
   have HWQ:=Lib.hid hwq
   have HBF:Hid (Below w.heap.size w wq):=Lib.hid (Far.toBelow hbw2 HGO.out.far hbw2.size (by
    rintro c (h|h)
    ·omega
    ·have:=HV2.out c h;omega))
   have r0:=HST.out.1.cell 0
   have HOW:Hid (OwnRow Form.u8 5 wq w.heap.size noK (.slice a9 (L.length+2) k9) (staBytes s)):=Lib.hid (by rw [HBY2.out];exact HST.out.2.1.lower (by omega))
   have HLE:Hid ((staBytes s).length=L.length+2):=Lib.hid (by rw [HBY2.out];simp)
   clear hgrow hlies hown' hB' hBp5 hba hg5 hrx hbw5 hown5 q0 hwq
   go_upto_region 19 with (fail)
   rw [HWQ.out]
   by_cases hbig:100000<L.length+2
   ·have e1:((L.length:Int)+2 > 100000)=True:=eq_true (by omega)
    go_wp2
    refine bodyPost_ret (v:=.tuple #[.slice none 0 0,.iface 36 (.int .i64 3)]) (by simp [results,Tryz.results12,go_sem]) rfl ⟨_,_,rfl,(by repeat (first|(with_reducible first|exact Below.refl _ _|exact HBF.out|refine Below.al ?_ _|refine Below.drN ?_ _|refine Below.drew ?_|refine Below.sx ?_ _)|exact Below.refl _ _|exact HBF.out)),Or.inr ⟨by rw [HLE.out];exact hbig,rfl,(errV_err (by decide)).symm⟩⟩
   ·have e1:((L.length:Int)+2 > 100000)=False:=eq_false (by omega)
    go_wp2
    refine bodyPost_ret (v:=.tuple #[.slice a9 (L.length+2) k9,.nilIface]) (by simp [results,Tryz.results12,go_sem]) rfl ⟨_,_,rfl,(by repeat (first|(with_reducible first|exact Below.refl _ _|exact HBF.out|refine Below.al ?_ _|refine Below.drN ?_ _|refine Below.drew ?_|refine Below.sx ?_ _)|exact Below.refl _ _|exact HBF.out)),Or.inl ⟨by rw [HLE.out];omega,rfl,HOW.out⟩⟩
end Go.Proofs.YtchngeagnlngaaaGreatDoor
end
section
namespace Gal
def EyeN (bs:List Nat) (at0 at1:Nat) (ok ok1:Bool) (v:Nat):Prop:=(ok=true∧ok1=true∧sevAt bs at0=some (v,at1))∨(ok1=false∧v=0∧(ok=true→sevAt bs at0=none))
def EyeM (bs:List Nat) (at0 at1:Nat) (ok ok1:Bool) (m:Mat):Prop:=(ok=true∧ok1=true∧matRd bs at0=some (m,at1))∨(ok1=false∧(ok=true→matRd bs at0=none))
def EyeP (bs:List Nat) (at0 at1:Nat) (ok ok1:Bool) (l:Lay) (v:Grd):Prop:=(ok=true∧ok1=true∧partRd bs at0=some (l,v,at1))∨(ok1=false∧(ok=true→partRd bs at0=none))
def EyeL (bs:List Nat) (at0 k at1:Nat) (ok ok1:Bool) (N:List Lay) (V:List Grd):Prop:=(ok=true∧ok1=true∧laysRd bs at0 k=some (N,V,at1))∨(ok1=false∧(ok=true→laysRd bs at0 k=none))
section
variable {bs:List Nat} {at0 at1 at2 at3 at4 at5 at6 k:Nat} {ok ok1 ok2 ok3 ok4 ok5 ok6:Bool} {r c v:Nat}
theorem EyeN.small (h:EyeN bs at0 at1 ok ok1 v):v<9223372036854775808:=by
 rcases h with ⟨_,_,h⟩|⟨_,rfl,_⟩
 ·exact sevAt_lt h
 ·decide
theorem EyeN.zero (h:EyeN bs at0 at1 ok false v):v=0:=by
 rcases h with ⟨_,h,_⟩|⟨_,h,_⟩
 ·cases h
 ·exact h
def EyeC (bs:List Nat) (cnt at0 at1:Nat) (ok ok1:Bool) (vals:List Nat):Prop:=(ok=true→RdN bs cnt at0 at1 ok1 vals)∧(ok=false→ok1=false)
theorem EyeC.start (bs:List Nat) (at0:Nat) (ok:Bool):EyeC bs 0 at0 at0 ok ok []:=⟨fun h=>by rw [h];exact RdN.start bs at0,fun h=>h⟩
theorem EyeC.step {cnt:Nat} {vals:List Nat} (h:EyeC bs cnt at0 at1 ok ok1 vals) (h2:EyeN bs at1 at2 ok1 ok2 v):EyeC bs (cnt+1) at0 at2 ok ok2 (vals++[v]):=by
 refine ⟨fun h0=>?_,fun h0=>?_⟩
 ·have h3:=h.1 h0
  rcases h2 with ⟨e1,e2,e3⟩|⟨e1,e2,e3⟩
  ·exact h3.step (Or.inl ⟨e3,by rw [e1,e2]⟩)
  ·rcases h3 with ⟨h4,h5⟩|⟨h4,h5⟩
   ·exact RdN.step (Or.inl ⟨h4,h5⟩) (Or.inr ⟨e3 h5,e1⟩)
   ·exact Or.inr ⟨by rw [readN_add,h4],e1⟩
 ·have h3:=h.2 h0
  rcases h2 with ⟨e1,_⟩|⟨e1,_⟩
  ·rw [h3] at e1;cases e1
  ·exact e1
theorem EyeM.big {m:Mat} (h1:EyeN bs at0 at1 ok ok1 r) (h2:EyeN bs at1 at2 ok1 ok2 c) (hb:24<r∨12<c):EyeM bs at0 at2 ok false m:=by
 refine Or.inr ⟨rfl,fun h0=>?_⟩
 unfold matRd
 rcases h1 with ⟨_,e1,e2⟩|⟨_,_,e2⟩
 ·rw [e2]
  dsimp only
  rcases h2 with ⟨_,_,e3⟩|⟨_,_,e3⟩
  ·rw [e3]
   exact if_pos hb
  ·rw [e3 e1]
 ·rw [e2 h0]
theorem EyeM.mk {cells:List Nat} (h1:EyeN bs at0 at1 ok ok1 r) (h2:EyeN bs at1 at2 ok1 ok2 c) (hb:¬ (24<r∨12<c)) (h3:EyeC bs (r*c) at2 at3 ok2 ok3 cells):EyeM bs at0 at3 ok ok3 ⟨r,c,cells.map zagOf⟩:=by
 rcases h1 with ⟨e0,e1,e2⟩|⟨e0,e1,e2⟩
 ·rcases h2 with ⟨_,e4,e3⟩|⟨e4,_,e3⟩
  ·rcases h3.1 e4 with ⟨e5,e6⟩|⟨e5,e6⟩
   ·refine Or.inl ⟨e0,e6,?_⟩
    unfold matRd
    rw [e2];dsimp only;rw [e3];dsimp only
    rw [if_neg hb,e5]
   ·refine Or.inr ⟨e6,fun _=>?_⟩
    unfold matRd
    rw [e2];dsimp only;rw [e3];dsimp only
    rw [if_neg hb,e5]
  ·refine Or.inr ⟨h3.2 e4,fun _=>?_⟩
   unfold matRd
   rw [e2];dsimp only;rw [e3 e1]
 ·have e4:ok2=false:=by
   rcases h2 with ⟨e4,_⟩|⟨e4,_⟩
   ·rw [e0] at e4;cases e4
   ·exact e4
  refine Or.inr ⟨h3.2 e4,fun h=>?_⟩
  unfold matRd
  rw [e2 h]
theorem EyeM.false {m:Mat} (h:EyeM bs at0 at1 false ok1 m):ok1=false:=by
 rcases h with ⟨h,_⟩|⟨h,_⟩
 ·cases h
 ·exact h
theorem EyeP.mk {kd:Nat} {W B vW vB:Mat} (h0:EyeN bs at0 at1 ok ok1 kd) (h1:EyeM bs at1 at2 ok1 ok2 W) (h2:EyeM bs at2 at3 ok2 ok3 B) (h3:EyeM bs at3 at4 ok3 ok4 vW) (h4:EyeM bs at4 at5 ok4 ok5 vB) :
  EyeP bs at0 at5 ok ok5 ⟨kd,W,B⟩ ⟨vW,vB⟩:=by
 cases ok with
 | false=>
  refine Or.inr ⟨?_,fun h=>by cases h⟩
  have e0:ok1=false:=by
   rcases h0 with ⟨h,_⟩|⟨h,_⟩
   ·cases h
   ·exact h
  subst e0
  have:=h1.false;subst this
  have:=h2.false;subst this
  have:=h3.false;subst this
  exact h4.false
 | true=>
  unfold EyeP partRd
  rcases h0 with ⟨_,rfl,e0⟩|⟨rfl,_,e0⟩
  ·rw [e0];dsimp only
   rcases h1 with ⟨_,rfl,e1⟩|⟨rfl,e1⟩
   ·rw [e1];dsimp only
    rcases h2 with ⟨_,rfl,e2⟩|⟨rfl,e2⟩
    ·rw [e2];dsimp only
     rcases h3 with ⟨_,rfl,e3⟩|⟨rfl,e3⟩
     ·rw [e3];dsimp only
      rcases h4 with ⟨_,rfl,e4⟩|⟨rfl,e4⟩
      ·rw [e4];exact Or.inl ⟨rfl,rfl,rfl⟩
      ·rw [e4 rfl];exact Or.inr ⟨rfl,fun _=>rfl⟩
     ·rw [e3 rfl];exact Or.inr ⟨h4.false,fun _=>rfl⟩
    ·rw [e2 rfl]
     have:=h3.false;subst this
     exact Or.inr ⟨h4.false,fun _=>rfl⟩
   ·rw [e1 rfl]
    have:=h2.false;subst this
    have:=h3.false;subst this
    exact Or.inr ⟨h4.false,fun _=>rfl⟩
  ·rw [e0 rfl]
   have:=h1.false;subst this
   have:=h2.false;subst this
   have:=h3.false;subst this
   exact Or.inr ⟨h4.false,fun _=>rfl⟩
theorem EyeL.start (bs:List Nat) (at0:Nat) (ok:Bool):EyeL bs at0 0 at0 ok ok [] []:=by
 cases ok with
 | true=>exact Or.inl ⟨rfl,rfl,rfl⟩
 | false=>exact Or.inr ⟨rfl,fun h=>by cases h⟩
theorem EyeL.step {N:List Lay} {V:List Grd} {l:Lay} {g:Grd} (h:EyeL bs at0 k at1 ok ok1 N V) (h2:EyeP bs at1 at2 ok1 ok2 l g):EyeL bs at0 (k+1) at2 ok ok2 (N++[l]) (V++[g]):=by
 unfold EyeL laysRd
 rcases h with ⟨rfl,rfl,h⟩|⟨rfl,h⟩
 ·rw [h];dsimp only
  rcases h2 with ⟨_,rfl,h2⟩|⟨rfl,h2⟩
  ·rw [h2];exact Or.inl ⟨rfl,rfl,rfl⟩
  ·rw [h2 rfl];exact Or.inr ⟨rfl,fun _=>rfl⟩
 ·rcases h2 with ⟨h2,_⟩|⟨rfl,_⟩
  ·cases h2
  ·refine Or.inr ⟨rfl,fun h0=>by rw [h h0]⟩
theorem body_big {steps n:Nat} (h1:EyeN bs 2 at1 true ok1 steps) (h2:EyeN bs at1 at2 ok1 ok2 n) (hn:12<n):bodyRd bs=none:=by
 unfold bodyRd
 rcases h1 with ⟨_,rfl,h1⟩|⟨rfl,_,h1⟩
 ·rw [h1];dsimp only
  rcases h2 with ⟨_,rfl,h2⟩|⟨rfl,_,h2⟩
  ·rw [h2];exact if_pos hn
  ·rw [h2 rfl]
 ·rw [h1 rfl]
theorem body_is {steps n:Nat} {N:List Lay} {V:List Grd} (h1:EyeN bs 2 at1 true ok1 steps) (h2:EyeN bs at1 at2 ok1 ok2 n) (hn:¬ 12<n) (h3:EyeL bs at2 n at3 ok2 ok3 N V) :
  bodyRd bs=if ok3=false∨at3≠bs.length∨(Sta.mk N V steps).fault≠0 then none else some ⟨N,V,steps⟩:=by
 unfold bodyRd
 rcases h1 with ⟨_,rfl,h1⟩|⟨rfl,_,h1⟩
 ·rw [h1];dsimp only
  rcases h2 with ⟨_,rfl,h2⟩|⟨rfl,_,h2⟩
  ·rw [h2];dsimp only
   rw [if_neg hn]
   rcases h3 with ⟨_,rfl,h3⟩|⟨rfl,h3⟩
   ·rw [h3];dsimp only
    simp
   ·rw [h3 rfl];simp
  ·rw [h2 rfl]
   have:ok3=false:=by
    rcases h3 with ⟨h,_⟩|⟨h,_⟩
    ·cases h
    ·exact h
   rw [if_pos (Or.inl this)]
 ·rw [h1 rfl]
  have e2:ok2=false:=by
   rcases h2 with ⟨h,_⟩|⟨h,_⟩
   ·cases h
   ·exact h
  subst e2
  have:ok3=false:=by
   rcases h3 with ⟨h,_⟩|⟨h,_⟩
   ·cases h
   ·exact h
  rw [if_pos (Or.inl this)]
end
end Gal
end
section
set_option maxRecDepth 100000
namespace Gal
open Go Go.RowKit
theorem and_127 {v:Nat} (h:v<256):bits .and .u8 (v:Int) 127=((v % 128:Nat):Int):=by
 have hall:∀ a:Fin 256,bits .and .u8 (a.val:Int) 127=((a.val % 128:Nat):Int):=by decide +kernel
 exact hall ⟨v,h⟩
theorem i64_or_nat (a b:Nat) (ha:a<9223372036854775808) (hb:b<9223372036854775808):bits .or .i64 (a:Int) (b:Int)=((a ||| b:Nat):Int):=by
 have hx:a ||| b<2 ^ 63:=Nat.or_lt_two_pow (by omega) (by omega)
 have h64:∀ c:Nat,c<9223372036854775808→(BitVec.ofInt 64 (c:Int)).toNat=c:=fun c hc=>by
  rw [BitVec.ofInt_natCast,BitVec.toNat_ofNat];exact Nat.mod_eq_of_lt (by omega)
 show IntKind.i64.wrap ((BitVec.ofInt 64 (a:Int) ||| BitVec.ofInt 64 (b:Int)).toNat:Int)=_
 rw [BitVec.toNat_or,h64 a ha,h64 b hb]
 exact IntWalk.i64_in _ (by omega)
theorem or_seven {x d i:Nat} (hx:x<2 ^ (7*i)) (hd:d<128) (hi:i≤8):bits .or .i64 (x:Int) ((d*2 ^ (7*i):Nat):Int)=((x+d*2 ^ (7*i):Nat):Int):=by
 have h1:(2:Nat) ^ (7*i)≤2 ^ 56:=Nat.pow_le_pow_right (by omega) (by omega)
 have h2:d*2 ^ (7*i)≤127*2 ^ 56:=Nat.mul_le_mul (by omega) h1
 rw [i64_or_nat x (d*2 ^ (7*i)) (by omega) (by omega)]
 have h3:=or_add (d:=d) hx
 rw [Nat.shiftLeft_eq] at h3
 rw [h3]
theorem or_seven' {x d i:Nat} (hx:x<2 ^ (7*i)) (hd:d<128) (hi:i≤8):bits .or .i64 (x:Int) (wrap64 ((d:Int)*2 ^ (7*i)))=((x+d*2 ^ (7*i):Nat):Int):=by
 have h1:(2:Nat) ^ (7*i)≤2 ^ 56:=Nat.pow_le_pow_right (by omega) (by omega)
 have h2:d*2 ^ (7*i)≤127*2 ^ 56:=Nat.mul_le_mul (by omega) h1
 have h3:wrap64 ((d:Int)*2 ^ (7*i))=((d*2 ^ (7*i):Nat):Int):=by
  rw [show (d:Int)*2 ^ (7*i)=((d*2 ^ (7*i):Nat):Int) by push_cast;rfl]
  unfold wrap64
  omega
 rw [h3]
 exact or_seven hx hd hi
theorem i64_and_one (a:Nat) (ha:a<9223372036854775808):bits .and .i64 (a:Int) 1=((a % 2:Nat):Int):=by
 have h64:∀ c:Nat,c<9223372036854775808→(BitVec.ofInt 64 (c:Int)).toNat=c:=fun c hc=>by
  rw [BitVec.ofInt_natCast,BitVec.toNat_ofNat];exact Nat.mod_eq_of_lt (by omega)
 show IntKind.i64.wrap ((BitVec.ofInt 64 (a:Int) &&& BitVec.ofInt 64 1).toNat:Int)=_
 rw [BitVec.toNat_and,h64 a ha,show (BitVec.ofInt 64 1).toNat=1 by decide,Nat.and_one_is_mod]
 exact IntWalk.i64_in _ (by omega)
theorem seven_pow (i:Nat):2 ^ (7*(i+1))=128*2 ^ (7*i):=by rw [show 7*(i+1)=7*i+7 by omega,Nat.pow_add];omega
end Gal
namespace Go.Proofs.YtchngeagnlngaaaGreatDoor
open Go.RowKit Gal
set_option maxHeartbeats 4000000
end Go.Proofs.YtchngeagnlngaaaGreatDoor
end
