/- Texts joined: FormsG, Train1, Drill1. -/
import Derived.Test.YtchngeagnlngaaaGreatDoorJ06
import Derived.Test.YtchngeagnlngaaaGreatDoorJ07
import Derived.Test.YtchngeagnlngaaaGreatDoorJ02
import Derived.Test.YtchngeagnlngaaaGreatDoorJ03
import Derived.Test.YtchngeagnlngaaaGreatDoorJ04
import Derived.Test.YtchngeagnlngaaaGreatDoorJ05
import Derived.WalkKit
set_option linter.unusedVariables false
set_option linter.unusedSimpArgs false
set_option linter.unusedSectionVars false
section
set_option maxRecDepth 100000
namespace Gal
open Go Go.RowKit Go.ChangeShapes Go.WideShapes Go.Deep
def Form.lay:Form Lay:=(Form.int.and (Form.mat.and Form.mat)).as fun x=>⟨x.1,x.2.1,x.2.2⟩
def Form.grd:Form Grd:=(Form.mat.and Form.mat).as fun x=>⟨x.1,x.2⟩
end Gal
namespace Go.Proofs.YtchngeagnlngaaaGreatDoor
open Go.RowKit Gal Go.ChangeShapes Go.WideShapes
theorem lay_reads {w:World} {F:Nat→Prop} {cs:List Value} {l:Lay} (h:Form.lay.reads w F cs l) :
  ∃ a n cap b o a' n' cap' b' o',cs=[.int .i64 l.kind,.int .i64 l.W.rows,.int .i64 l.W.cols,.slice a n cap,.int .i64 l.B.rows,.int .i64 l.B.cols,.slice a' n' cap']∧(0<n→F b)∧IntsAt w a n cap b o l.W.cells∧(0<n'→F b')∧IntsAt w a' n' cap' b' o' l.B.cells:=by
 obtain ⟨⟨kd,W,B⟩,⟨c,d,rfl,rfl,c1,d1,rfl,⟨a,n,cap,b,o,rfl,hF,x0⟩,⟨a',n',cap',b',o',rfl,hF',x1⟩⟩,rfl⟩:=h
 exact ⟨a,n,cap,b,o,a',n',cap',b',o',rfl,hF,x0,hF',x1⟩
theorem reads_lay {w:World} {F:Nat→Prop} {l:Lay} {a a':Option Addr} {n n' cap cap' b b' o o':Nat} (hF:0<n→F b) (x0:IntsAt w a n cap b o l.W.cells) (hF':0<n'→F b') (x1:IntsAt w a' n' cap' b' o' l.B.cells) :
  Form.lay.reads w F [.int .i64 l.kind,.int .i64 l.W.rows,.int .i64 l.W.cols,.slice a n cap,.int .i64 l.B.rows,.int .i64 l.B.cols,.slice a' n' cap'] l:=
 ⟨(l.kind,l.W,l.B),⟨_,_,rfl,rfl,_,_,rfl,⟨a,n,cap,b,o,rfl,hF,x0⟩,⟨a',n',cap',b',o',rfl,hF',x1⟩⟩,rfl⟩
theorem grd_reads {w:World} {F:Nat→Prop} {cs:List Value} {d:Grd} (h:Form.grd.reads w F cs d) :
  ∃ a n cap b o a' n' cap' b' o',cs=[.int .i64 d.W.rows,.int .i64 d.W.cols,.slice a n cap,.int .i64 d.B.rows,.int .i64 d.B.cols,.slice a' n' cap']∧(0<n→F b)∧IntsAt w a n cap b o d.W.cells∧(0<n'→F b')∧IntsAt w a' n' cap' b' o' d.B.cells:=by
 obtain ⟨⟨W,B⟩,⟨c1,d1,rfl,⟨a,n,cap,b,o,rfl,hF,x0⟩,⟨a',n',cap',b',o',rfl,hF',x1⟩⟩,rfl⟩:=h
 exact ⟨a,n,cap,b,o,a',n',cap',b',o',rfl,hF,x0,hF',x1⟩
theorem reads_grd {w:World} {F:Nat→Prop} {d:Grd} {a a':Option Addr} {n n' cap cap' b b' o o':Nat} (hF:0<n→F b) (x0:IntsAt w a n cap b o d.W.cells) (hF':0<n'→F b') (x1:IntsAt w a' n' cap' b' o' d.B.cells) :
  Form.grd.reads w F [.int .i64 d.W.rows,.int .i64 d.W.cols,.slice a n cap,.int .i64 d.B.rows,.int .i64 d.B.cols,.slice a' n' cap'] d:=
 ⟨(d.W,d.B),⟨_,_,rfl,⟨a,n,cap,b,o,rfl,hF,x0⟩,⟨a',n',cap',b',o',rfl,hF',x1⟩⟩,rfl⟩
theorem lay_cells {w:World} {F:Nat→Prop} {a:Option Addr} {n k b o:Nat} {ls:List Lay} {i:Nat} (h:RowAt Form.lay w F a n k b o ls) (hi:i<n) :
  ∃ a1 n1 k1 b1 o1 a2 n2 k2 b2 o2,w.cell? ⟨b,o+i*7,none⟩=some (.int .i64 (lx ls i).kind)∧w.cell? ⟨b,o+i*7+1,none⟩=some (.int .i64 (lx ls i).W.rows)∧w.cell? ⟨b,o+i*7+2,none⟩=some (.int .i64 (lx ls i).W.cols)∧w.cell? ⟨b,o+i*7+3,none⟩=some (.slice a1 n1 k1) ∧
   w.cell? ⟨b,o+i*7+4,none⟩=some (.int .i64 (lx ls i).B.rows)∧w.cell? ⟨b,o+i*7+5,none⟩=some (.int .i64 (lx ls i).B.cols)∧w.cell? ⟨b,o+i*7+6,none⟩=some (.slice a2 n2 k2)∧IntsAt w a1 n1 k1 b1 o1 (lx ls i).W.cells∧IntsAt w a2 n2 k2 b2 o2 (lx ls i).B.cells:=by
 obtain ⟨cs,hr,hc⟩:=h.cell i _ (lx_get (by rw [h.len];exact hi))
 obtain ⟨a1,n1,k1,b1,o1,a2,n2,k2,b2,o2,rfl,_,x1,_,x2⟩:=lay_reads hr
 exact ⟨a1,n1,k1,b1,o1,a2,n2,k2,b2,o2,hc 0 (by decide),hc 1 (by decide),hc 2 (by decide),hc 3 (by decide),hc 4 (by decide),hc 5 (by decide),hc 6 (by decide),x1,x2⟩
theorem grd_cells {w:World} {F:Nat→Prop} {a:Option Addr} {n k b o:Nat} {ds:List Grd} {i:Nat} {d:Grd} (h:RowAt Form.grd w F a n k b o ds) (hd:ds[i]?=some d) :
  ∃ a1 n1 k1 b1 o1 a2 n2 k2 b2 o2,w.cell? ⟨b,o+i*6,none⟩=some (.int .i64 d.W.rows)∧w.cell? ⟨b,o+i*6+1,none⟩=some (.int .i64 d.W.cols)∧w.cell? ⟨b,o+i*6+2,none⟩=some (.slice a1 n1 k1) ∧
   w.cell? ⟨b,o+i*6+3,none⟩=some (.int .i64 d.B.rows)∧w.cell? ⟨b,o+i*6+4,none⟩=some (.int .i64 d.B.cols)∧w.cell? ⟨b,o+i*6+5,none⟩=some (.slice a2 n2 k2)∧IntsAt w a1 n1 k1 b1 o1 d.W.cells∧IntsAt w a2 n2 k2 b2 o2 d.B.cells:=by
 obtain ⟨cs,hr,hc⟩:=h.cell i d hd
 obtain ⟨a1,n1,k1,b1,o1,a2,n2,k2,b2,o2,rfl,_,x1,_,x2⟩:=grd_reads hr
 exact ⟨a1,n1,k1,b1,o1,a2,n2,k2,b2,o2,hc 0 (by decide),hc 1 (by decide),hc 2 (by decide),hc 3 (by decide),hc 4 (by decide),hc 5 (by decide),x1,x2⟩
theorem opens_lay:Opens Tryz.prog Form.lay 84:=
 (Opens.three (f:=Form.int) (g:=Form.mat) (k:=Form.mat) Tryz.underlying84 opens_int opens_mat opens_mat (by kernel_rfl) (by kernel_rfl) (by kernel_rfl) (by kernel_rfl)).as _
theorem opens_grd:Opens Tryz.prog Form.grd 86:=
 (Opens.two (f:=Form.mat) (g:=Form.mat) Tryz.underlying86 opens_mat opens_mat (by kernel_rfl) (by kernel_rfl) (by kernel_rfl)).as _
end Go.Proofs.YtchngeagnlngaaaGreatDoor
end
section
set_option maxRecDepth 100000
namespace Gal
theorem stTo_stop {ls:List Lay} {vs:List Grd} {k n:Nat} (hk:k<n) (hz:stTo ls vs k=0) (hp:stPart (lx ls k) (gx vs k)≠0):stTo ls vs n=stPart (lx ls k) (gx vs k):=by
 have h1:=stTo_next hz
 rw [← h1]
 exact stTo_stays hk (by rw [h1];exact hp)
theorem Sta.fault_to {s:Sta} (h1:¬ 12<s.N.length) (h2:s.V.length=s.N.length) (h3:¬ (s.steps<0∨1000000000<s.steps)):s.fault=stTo s.N s.V s.N.length:=by
 unfold Sta.fault
 rw [if_neg h1,if_neg (by omega),if_neg h3]
end Gal
namespace Go.Proofs.YtchngeagnlngaaaGreatDoor
open Go.RowKit Gal
set_option maxHeartbeats 4000000
theorem trainCheck_any (s:Sta) (F G:Nat→Prop) (a0 a1:Option Addr) (n n1 k0 k1 b0 b1 o0 o1:Nat) (w:World) (h0:RowAt Form.lay w F a0 n k0 b0 o0 s.N) (h1:RowAt Form.grd w G a1 n1 k1 b1 o1 s.V) :
  Calls Tryz.prog 26 #[.agg #[.slice a0 n k0,.slice a1 n1 k1,.int .i64 s.steps]] w fun e w'=>e=.returned (errV s.fault)∧Below w.heap.size w w':=by
 have HL0:=Lib.hid h0.len
 have HL1:=Lib.hid h1.len
 have hm:=h0.max
 have hm1:=h1.max
 unfold maxLen at hm hm1
 by_cases g1:12<n
 ·have HF:Hid (s.fault=3):=Lib.hid (by unfold Sta.fault;rw [if_pos (by rw [HL0.out];exact g1)])
  have e1:((n:Int) > 12)=True:=eq_true (by omega)
  clear g1
  rw [show s.fault=3 from HF.out,errV_err (by decide)]
  go_enter Tryz.func26,Tryz.ntmps26
  go_wp2
  go_ret
  exact ⟨by rfl,Below.x0⟩
 ·have e1 : ((n : Int) > 12)=False:=eq_false (by omega)
  by_cases g2:n1=n
  ·have e2 : ((n1:Int) != (n:Int))=false:=by rw [bne_eq_false_iff_eq];omega
   by_cases g3:s.steps<0
   ·have HF:Hid (s.fault=1):=Lib.hid (by unfold Sta.fault;rw [if_neg (by rw [HL0.out];exact g1),if_neg (by rw [HL0.out,HL1.out];omega),if_pos (Or.inl g3)])
    have e3:(s.steps<0)=True:=eq_true g3
    clear g1 g2 g3
    rw [show s.fault=1 from HF.out,errV_err (by decide)]
    go_enter Tryz.func26,Tryz.ntmps26
    go_wp2
    go_ret
    exact ⟨by rfl,Below.x0⟩
   ·have e3 : (s.steps<0)=False:=eq_false g3
    by_cases g4:1000000000<s.steps
    ·have HF:Hid (s.fault=1):=Lib.hid (by unfold Sta.fault;rw [if_neg (by rw [HL0.out];exact g1),if_neg (by rw [HL0.out,HL1.out];omega),if_pos (Or.inr g4)])
     have e4:(s.steps > 1000000000)=True:=eq_true (by omega)
     clear g1 g2 g3 g4
     rw [show s.fault=1 from HF.out,errV_err (by decide)]
     go_enter Tryz.func26,Tryz.ntmps26
     go_wp2
     go_ret
     exact ⟨by rfl,Below.x0⟩
    ·have e4 : (s.steps > 1000000000)=False:=eq_false (by omega)
     have HTO:Hid (s.fault=stTo s.N s.V n):=Lib.hid (by rw [Sta.fault_to (by rw [HL0.out];exact g1) (by rw [HL0.out,HL1.out];exact g2) (by omega),HL0.out])
     subst g2
     clear g3 g4
     go_enter Tryz.func26,Tryz.ntmps26
     go_wp2
     go_loopw [37] (fun i wr=>∃ t:Nat,t≤n1∧i=.int .i64 t∧Hid (stTo s.N s.V t=0)∧Box wr w.heap.size [.slice a0 n1 k0,.slice a1 n1 k1,.int .i64 s.steps] 30∧Below w.heap.size w wr) (fun i _=>n1 - (intOf i).toNat)
     case atStart=>exact ⟨0,Nat.zero_le _,rfl,Lib.hid rfl,Box.new' _ _ [.slice a0 n1 k0,.slice a1 n1 k1,.int .i64 s.steps] _ rfl,Below.x0⟩
     case round =>
      obtain ⟨t,ht,rfl,HT,hS,hbr⟩:=hrel
      by_cases hlt:t<n1
      ·obtain rfl:=h0.ptr (by omega)
       obtain rfl:=h1.ptr (by omega)
       obtain ⟨a2,n2,k2,b2,o2,a3,n3,k3,b3,o3,c0,c1,c2,c3,c4,c5,c6,x1,x2⟩:=lay_cells (h0.keep hbr) hlt
       by_cases f1:(lx s.N t).fault=0
       ·have HFL:=Lib.hid f1
        have HE1:Hid (errV (lx s.N t).fault=.nilIface):=Lib.hid (errV_nil f1)
        clear f1
        go_wp2_with fail
        refine (layCheck_any (lx s.N t) _ _ ⟨_,_,_,_,_,_,_,_,_,_,rfl,x1.alloc _,x2.alloc _⟩).mono ?_
        rw [HE1.out]
        rintro e w1 ⟨rfl,hb1⟩
        have B4:=(Box.new wr [.int .i64 (lx s.N t).kind,.int .i64 (lx s.N t).W.rows,.int .i64 (lx s.N t).W.cols,.slice a2 n2 k2,.int .i64 (lx s.N t).B.rows,.int .i64 (lx s.N t).B.cols,.slice a3 n3 k3] 84).keep hb1
        have B4c:=B4.cell
        have B4f:=B4.thawed
        have B4z:=B4.lt
        have B4k:=lt_add B4z
        have hkw1:Below wr.heap.size wr w1:=(Below.x1 hb1)
        replace hS:=hS.keep hkw1
        replace hSc:=hS.cell
        replace hSf:=hS.thawed
        replace hSz:=hS.lt
        replace hSk:=lt_add hSz
        have hsw1:=hkw1.size
        clear x1 x2 c0 c1 c2 c3 c4 c5 c6
        have hbw1:Below w.heap.size w w1:=hbr.trans (hkw1.mono hbr.size)
        obtain ⟨a4,n4,k4,b4,o4,a5,n5,k5,b5,o5,d0,d1,d2,d3,d4,d5,y1,y2⟩:=grd_cells (h1.keep hbw1) (gx_get (i:=t) (by rw [HL1.out];exact hlt))
        by_cases f2:(gx s.V t).W.fault=0
        ·have HFW:=Lib.hid f2
         have HE2:Hid (errV (matFault (gx s.V t).W.rows (gx s.V t).W.cols (gx s.V t).W.cells)=.nilIface):=Lib.hid (errV_nil f2)
         clear f2
         go_wp2_with fail
         refine (matCheck_any _ _ _ _ _ _ _ (gx s.V t).W.cells _ (y1.alloc _)).mono ?_
         rw [HE2.out]
         rintro e w2 ⟨rfl,hb2⟩
         have B6:=(Box.new w1 [.int .i64 (gx s.V t).W.rows,.int .i64 (gx s.V t).W.cols,.slice a4 n4 k4,.int .i64 (gx s.V t).B.rows,.int .i64 (gx s.V t).B.cols,.slice a5 n5 k5] 86).keep hb2
         have B6c:=B6.cell
         have B6f:=B6.thawed
         have B6z:=B6.lt
         have B6k:=lt_add B6z
         have hkw2:Below w1.heap.size w1 w2:=(Below.x1 hb2)
         replace hS:=hS.keep hkw2
         replace hSc:=hS.cell
         replace hSf:=hS.thawed
         replace hSz:=hS.lt
         replace hSk:=lt_add hSz
         replace B4:=B4.keep hkw2
         replace B4c:=B4.cell
         replace B4f:=B4.thawed
         replace B4z:=B4.lt
         replace B4k:=lt_add B4z
         replace y2:=y2.keep hkw2
         have hsw2:=hkw2.size
         clear y1 d0 d1 d2 d3 d4 d5
         by_cases f3:(gx s.V t).B.fault=0
         ·have HFB:=Lib.hid f3
          have HE3:Hid (errV (matFault (gx s.V t).B.rows (gx s.V t).B.cols (gx s.V t).B.cells)=.nilIface):=Lib.hid (errV_nil f3)
          clear f3
          go_wp2_with fail
          refine (matCheck_any _ _ _ _ _ _ _ (gx s.V t).B.cells _ y2).mono ?_
          rw [HE3.out]
          rintro e w3 ⟨rfl,hb3⟩
          have hkw3:Below w2.heap.size w2 w3:=(Below.x1 hb3)
          replace hS:=hS.keep hkw3
          replace hSc:=hS.cell
          replace hSf:=hS.thawed
          replace hSz:=hS.lt
          replace hSk:=lt_add hSz
          replace B4:=B4.keep hkw3
          replace B4c:=B4.cell
          replace B4f:=B4.thawed
          replace B4z:=B4.lt
          replace B4k:=lt_add B4z
          replace B6:=B6.keep hkw3
          replace B6c:=B6.cell
          replace B6f:=B6.thawed
          replace B6z:=B6.lt
          replace B6k:=lt_add B6z
          have hsw3:=hkw3.size
          have hbe:Below w.heap.size w w3:=(by repeat (first|(with_reducible first|exact Below.refl _ _|exact hbw1|refine Below.al ?_ _|refine Below.drN ?_ _|refine Below.drew ?_|refine Below.sx ?_ _|refine Below.go ?_ hb3|refine Below.go ?_ hb2)|exact Below.refl _ _|exact hbw1))
          clear y2 hb3 hb2 hbw1 hkw3 hkw2 hkw1
          by_cases q1:(gx s.V t).W.rows=(lx s.N t).W.rows
          ·have r1:((gx s.V t).W.rows != (lx s.N t).W.rows)=false:=by rw [bne_eq_false_iff_eq];exact q1
           by_cases q2:(gx s.V t).W.cols=(lx s.N t).W.cols
           ·have r2:((gx s.V t).W.cols != (lx s.N t).W.cols)=false:=by rw [bne_eq_false_iff_eq];exact q2
            by_cases q3:(gx s.V t).B.rows=(lx s.N t).B.rows
            ·have r3:((gx s.V t).B.rows != (lx s.N t).B.rows)=false:=by rw [bne_eq_false_iff_eq];exact q3
             by_cases q4:(gx s.V t).B.cols=(lx s.N t).B.cols
             ·have r4:((gx s.V t).B.cols != (lx s.N t).B.cols)=false:=by rw [bne_eq_false_iff_eq];exact q4
              have HNX:Hid (stTo s.N s.V (t+1)=0):=Lib.hid (by
               rw [stTo_next HT.out]
               unfold stPart
               rw [if_neg (by simp [HFL.out]),if_neg (by simp [HFW.out]),if_neg (by simp [HFB.out]),if_pos ⟨⟨q1,q2⟩,q3,q4⟩])
              clear q1 q2 q3 q4
              go_wp2
              go_roundw
              case rel=>exact ⟨t+1,by omega,by go_num,HNX,hS,hbe⟩
              case measure=>simp [intOf];omega
             ·have r4:((gx s.V t).B.cols != (lx s.N t).B.cols)=true:=by rw [bne_iff_ne];exact q4
              have HNZ:Hid ((2:Int)≠0):=Lib.hid (by decide)
              have HR:Hid (errV s.fault=.iface 36 (.int .i64 2)):=Lib.hid (by
               have h1:stPart (lx s.N t) (gx s.V t)=2:=by
                unfold stPart
                rw [if_neg (by simp [HFL.out]),if_neg (by simp [HFW.out]),if_neg (by simp [HFB.out]),if_neg (fun hh=>q4 hh.2.2)]
               rw [HTO.out,stTo_stop hlt HT.out (by rw [h1];exact HNZ.out),h1]
               exact errV_err HNZ.out)
              go_wp2
              go_ret
              exact ⟨by rw [HR.out];rfl,(Below.y0 hbe)⟩
            ·have r3:((gx s.V t).B.rows != (lx s.N t).B.rows)=true:=by rw [bne_iff_ne];exact q3
             have HNZ:Hid ((2:Int)≠0):=Lib.hid (by decide)
             have HR:Hid (errV s.fault=.iface 36 (.int .i64 2)):=Lib.hid (by
              have h1:stPart (lx s.N t) (gx s.V t)=2:=by
               unfold stPart
               rw [if_neg (by simp [HFL.out]),if_neg (by simp [HFW.out]),if_neg (by simp [HFB.out]),if_neg (fun hh=>q3 hh.2.1)]
              rw [HTO.out,stTo_stop hlt HT.out (by rw [h1];exact HNZ.out),h1]
              exact errV_err HNZ.out)
             go_wp2
             go_ret
             exact ⟨by rw [HR.out];rfl,(Below.y0 hbe)⟩
           ·have r2:((gx s.V t).W.cols != (lx s.N t).W.cols)=true:=by rw [bne_iff_ne];exact q2
            have HNZ:Hid ((2:Int)≠0):=Lib.hid (by decide)
            have HR:Hid (errV s.fault=.iface 36 (.int .i64 2)):=Lib.hid (by
             have h1:stPart (lx s.N t) (gx s.V t)=2:=by
              unfold stPart
              rw [if_neg (by simp [HFL.out]),if_neg (by simp [HFW.out]),if_neg (by simp [HFB.out]),if_neg (fun hh=>q2 hh.1.2)]
             rw [HTO.out,stTo_stop hlt HT.out (by rw [h1];exact HNZ.out),h1]
             exact errV_err HNZ.out)
            go_wp2
            go_ret
            exact ⟨by rw [HR.out];rfl,(Below.y0 hbe)⟩
          ·have r1:((gx s.V t).W.rows != (lx s.N t).W.rows)=true:=by rw [bne_iff_ne];exact q1
           have HNZ:Hid ((2:Int)≠0):=Lib.hid (by decide)
           have HR:Hid (errV s.fault=.iface 36 (.int .i64 2)):=Lib.hid (by
            have h1:stPart (lx s.N t) (gx s.V t)=2:=by
             unfold stPart
             rw [if_neg (by simp [HFL.out]),if_neg (by simp [HFW.out]),if_neg (by simp [HFB.out]),if_neg (fun hh=>q1 hh.1.1)]
            rw [HTO.out,stTo_stop hlt HT.out (by rw [h1];exact HNZ.out),h1]
            exact errV_err HNZ.out)
           go_wp2
           go_ret
           exact ⟨by rw [HR.out];rfl,(Below.y0 hbe)⟩
         ·have HNZ:=Lib.hid f3
          have HE3:Hid (errV (matFault (gx s.V t).B.rows (gx s.V t).B.cols (gx s.V t).B.cells)=.iface 36 (.int .i64 (gx s.V t).B.fault)):=Lib.hid (errV_err f3)
          clear f3
          go_wp2_with fail
          refine (matCheck_any _ _ _ _ _ _ _ (gx s.V t).B.cells _ y2).mono ?_
          rw [HE3.out]
          rintro e w3 ⟨rfl,hb3⟩
          have hbe:Below w.heap.size w w3:=(by repeat (first|(with_reducible first|exact Below.refl _ _|exact hbw1|refine Below.al ?_ _|refine Below.drN ?_ _|refine Below.drew ?_|refine Below.sx ?_ _|refine Below.go ?_ hb3|refine Below.go ?_ hb2)|exact Below.refl _ _|exact hbw1))
          have HR:Hid (errV s.fault=.iface 36 (.int .i64 ((gx s.V t).B.fault))):=Lib.hid (by
           have h1:stPart (lx s.N t) (gx s.V t)=(gx s.V t).B.fault:=(by unfold stPart;rw [if_neg (by simp [HFL.out]),if_neg (by simp [HFW.out]),if_pos HNZ.out])
           rw [HTO.out,stTo_stop hlt HT.out (by rw [h1];exact HNZ.out),h1]
           exact errV_err HNZ.out)
          go_wp2
          go_ret
          exact ⟨by rw [HR.out];rfl,(Below.y0 hbe)⟩
        ·have HNZ:=Lib.hid f2
         have HE2:Hid (errV (matFault (gx s.V t).W.rows (gx s.V t).W.cols (gx s.V t).W.cells)=.iface 36 (.int .i64 (gx s.V t).W.fault)):=Lib.hid (errV_err f2)
         clear f2
         go_wp2_with fail
         refine (matCheck_any _ _ _ _ _ _ _ (gx s.V t).W.cells _ (y1.alloc _)).mono ?_
         rw [HE2.out]
         rintro e w2 ⟨rfl,hb2⟩
         have hbe:Below w.heap.size w w2:=(Below.y1 hb2 hbw1)
         have HR:Hid (errV s.fault=.iface 36 (.int .i64 ((gx s.V t).W.fault))):=Lib.hid (by
          have h1:stPart (lx s.N t) (gx s.V t)=(gx s.V t).W.fault:=(by unfold stPart;rw [if_neg (by simp [HFL.out]),if_pos HNZ.out])
          rw [HTO.out,stTo_stop hlt HT.out (by rw [h1];exact HNZ.out),h1]
          exact errV_err HNZ.out)
         go_wp2
         go_ret
         exact ⟨by rw [HR.out];rfl,(Below.y0 hbe)⟩
       ·have HNZ:=Lib.hid f1
        have HE1:Hid (errV (lx s.N t).fault=.iface 36 (.int .i64 (lx s.N t).fault)):=Lib.hid (errV_err f1)
        clear f1
        go_wp2_with fail
        refine (layCheck_any (lx s.N t) _ _ ⟨_,_,_,_,_,_,_,_,_,_,rfl,x1.alloc _,x2.alloc _⟩).mono ?_
        rw [HE1.out]
        rintro e w1 ⟨rfl,hb1⟩
        have hbe:Below w.heap.size w w1:=(Below.y1 hb1 hbr)
        have HR:Hid (errV s.fault=.iface 36 (.int .i64 ((lx s.N t).fault))):=Lib.hid (by
         have h1:stPart (lx s.N t) (gx s.V t)=(lx s.N t).fault:=(if_pos HNZ.out)
         rw [HTO.out,stTo_stop hlt HT.out (by rw [h1];exact HNZ.out),h1]
         exact errV_err HNZ.out)
        go_wp2
        go_ret
        exact ⟨by rw [HR.out];rfl,(Below.y0 hbe)⟩
      ·obtain rfl:t=n1:=by omega
       have HR:Hid (errV s.fault=.nilIface):=Lib.hid (by rw [HTO.out,HT.out];exact errV_nil rfl)
       go_wp2
       go_ret
       exact ⟨by rw [HR.out];rfl,(Below.y0 hbr)⟩
  ·have HF:Hid (s.fault=2):=Lib.hid (by unfold Sta.fault;rw [if_neg (by rw [HL0.out];exact g1),if_pos (by rw [HL0.out,HL1.out];exact g2)])
   have e2:((n1:Int) != (n:Int))=true:=by rw [bne_iff_ne];omega
   clear g1 g2
   rw [show s.fault=2 from HF.out,errV_err (by decide)]
   go_enter Tryz.func26,Tryz.ntmps26
   go_wp2
   go_ret
   exact ⟨by rfl,Below.x0⟩
end Go.Proofs.YtchngeagnlngaaaGreatDoor
end
section
set_option maxRecDepth 100000
namespace Go.Proofs.YtchngeagnlngaaaGreatDoor
open Go.RowKit Gal
set_option maxHeartbeats 4000000
theorem drillFault_any (s:Sta) (L:Nat) (every:Int) (Fs:List Int) (F G:Nat→Prop) (a0 a1 al af:Option Addr) (n n1 k0 k1 b0 b1 o0 o1 kl nf kf bf o2:Nat) (w:World) (h0:RowAt Form.lay w F a0 n k0 b0 o0 s.N) (h1:RowAt Form.grd w G a1 n1 k1 b1 o1 s.V) (hf:IntsAt w af nf kf bf o2 Fs) (hLb:L≤9223372036854775807) :
  Calls Tryz.prog 11 #[.agg #[.slice a0 n k0,.slice a1 n1 k1,.int .i64 s.steps],.slice al L kl,.int .i64 every,.slice af nf kf] w fun e w'=>e=.returned (errV (drillFault s L every Fs))∧Below w.heap.size w w':=by
 have hl:=hf.len
 have hmx:=hf.max
 unfold maxLen at hmx
 have HLn:=Lib.hid hl
 obtain ⟨z,hz⟩:∃ z,s.steps=z:=⟨_,rfl⟩
 have HZ:=Lib.hid hz
 rw [hz]
 clear hz
 have BB:=Box.new w [.slice a0 n k0,.slice a1 n1 k1,.int .i64 z] 30
 have c0:=BB.cell 0
 have c1:=BB.cell 1
 have c2:=BB.cell 2
 by_cases g1:20<L
 ·have HF:Hid (drillFault s L every Fs=3):=Lib.hid (if_pos g1)
  have g1d:decide (20<(L:Int))=true:=by simp;omega
  clear hf h0 h1 hl
  go_enter Tryz.func11,Tryz.ntmps11
  go_wp2
  go_ret
  exact ⟨by rw [HF.out,errV_err (by omega)];rfl,Below.x0⟩
 have g1d:decide (20<(L:Int))=false:=by simp;omega
 by_cases g2:every<1
 ·have HF:Hid (drillFault s L every Fs=1):=Lib.hid (by unfold drillFault;rw [if_neg g1,if_pos (Or.inl g2)])
  clear hf h0 h1 hl g1
  go_enter Tryz.func11,Tryz.ntmps11
  go_wp2
  go_ret
  exact ⟨by rw [HF.out,errV_err (by omega)];rfl,Below.x0⟩
 by_cases g3:20<every
 ·have HF:Hid (drillFault s L every Fs=1):=Lib.hid (by unfold drillFault;rw [if_neg g1,if_pos (Or.inr g3)])
  have g2f:(every<1)=False:=by simp;omega
  clear hf h0 h1 hl g1 g2
  go_enter Tryz.func11,Tryz.ntmps11
  go_wp2
  go_ret
  exact ⟨by rw [HF.out,errV_err (by omega)];rfl,Below.x0⟩
 have g2f:(every<1)=False:=by simp;omega
 have g3f:(20<every)=False:=by simp;omega
 have g3g:(every > 20)=False:=by simp;omega
 by_cases g4:20<nf
 ·have HF:Hid (drillFault s L every Fs=3):=Lib.hid (by unfold drillFault;rw [if_neg g1,if_neg (by omega),if_pos (by rw [HLn.out];exact g4)])
  have g4d:decide (20<(nf:Int))=true:=by simp;omega
  clear hf h0 h1 hl g1 g2 g3
  go_enter Tryz.func11,Tryz.ntmps11
  go_wp2
  go_ret
  exact ⟨by rw [HF.out,errV_err (by omega)];rfl,Below.x0⟩
 have g4d:decide (20<(nf:Int))=false:=by simp;omega
 have HD:Hid (drillFault s L every Fs=if fallsTo Fs nf≠0 then fallsTo Fs nf else if s.fault≠0 then s.fault else if 999999980<z then 1 else 0):=Lib.hid (by unfold drillFault;rw [if_neg g1,if_neg (by omega),if_neg (by rw [hl];exact g4),hl,HZ.out])
 replace hf:=hf.alloc (.cells #[.slice a0 n k0,.slice a1 n1 k1,.int .i64 z] 30)
 clear hl g1 g2 g3 g4
 go_enter Tryz.func11,Tryz.ntmps11
 go_wp2
 go_loopw [32] (fun i wr=>∃ t:Nat,t≤nf∧i=.int .i64 t∧Hid (fallsTo Fs t=0)∧wr=w.alloc (.cells #[.slice a0 n k0,.slice a1 n1 k1,.int .i64 z] 30)) (fun i _=>nf - (intOf i).toNat)
 case atStart=>exact ⟨0,Nat.zero_le _,rfl,Lib.hid rfl,rfl⟩
 case round=>
  obtain ⟨t,ht,rfl,HP,rfl⟩:=hrel
  by_cases hlt:t<nf
  ·obtain rfl:=hf.ptr (by omega)
   have hc:=hf.cell t hlt
   obtain ⟨x,hx⟩:∃ x,ix Fs t=x:=⟨_,rfl⟩
   have HX:=Lib.hid hx
   rw [hx] at hc
   by_cases e1:x<1
   ·have HF:Hid (drillFault s L every Fs=1):=Lib.hid (by
     have h9:fallOne Fs t=1:=by unfold fallOne;rw [HX.out,if_pos e1]
     rw [HD.out,fallsTo_stop hlt HP.out (by rw [h9];decide),h9];rfl)
    clear hx
    go_wp2
    go_ret
    exact ⟨by rw [HF.out,errV_err (by omega)];rfl,Below.x0⟩
   have e1f:(x<1)=False:=by simp;omega
   have h0t:(0:Int)≤(t:Int):=by omega
   rcases Nat.eq_zero_or_pos t with ht0|hpos
   ·have HN:Hid (fallsTo Fs (t+1)=0):=Lib.hid (by rw [fallsTo_next HP.out];unfold fallOne;rw [HX.out,if_neg (by omega),if_neg (by omega)])
    have tf:(0<(t:Int))=False:=by simp;omega
    have tf2:((t:Int) > 0)=False:=by simp;omega
    have tf3:decide (0<(t:Int))=false:=by simp;omega
    have tf4:(0<t)=False:=by simp;omega
    clear hx e1 ht0
    go_wp2
    go_roundw
    case rel=>exact ⟨t+1,by omega,by go_num,HN,by first|rfl|trivial⟩
    case measure=>simp [intOf];omega
   ·obtain ⟨u,rfl⟩:∃ u,t=u+1:=⟨t - 1,by omega⟩
    have hcu:=hf.cell u (by omega)
    obtain ⟨y,hy⟩:∃ y,ix Fs u=y:=⟨_,rfl⟩
    have HY:=Lib.hid hy
    rw [hy] at hcu
    have hul:u<nf:=by omega
    have e3:(((u+1:Nat):Int) - 1)=(u:Int):=by omega
    by_cases e2:x≤y
    ·have HF:Hid (drillFault s L every Fs=5):=Lib.hid (by
      have h9:fallOne Fs (u+1)=5:=by unfold fallOne;rw [HX.out,if_neg e1,Nat.add_sub_cancel,HY.out,if_pos ⟨by omega,e2⟩]
      rw [HD.out,fallsTo_stop hlt HP.out (by rw [h9];decide),h9];rfl)
     clear hx hy e1
     go_wp2
     go_ret
     exact ⟨by rw [HF.out,errV_err (by omega)];rfl,Below.x0⟩
    ·have e2f:(x≤y)=False:=by simp;omega
     have HN:Hid (fallsTo Fs (u+1+1)=0):=Lib.hid (by rw [fallsTo_next HP.out];unfold fallOne;rw [HX.out,if_neg e1,Nat.add_sub_cancel,HY.out,if_neg (fun q=>e2 q.2)])
     clear hx hy e1 e2
     go_wp2
     go_roundw
     case rel=>exact ⟨u+1+1,by omega,by go_num,HN,by first|rfl|trivial⟩
     case measure=>simp [intOf];omega
  ·obtain rfl:t=nf:=by omega
   have HD2:Hid (drillFault s L every Fs=if s.fault≠0 then s.fault else if 999999980<z then 1 else 0):=Lib.hid (by rw [HD.out,HP.out];rfl)
   clear HD HP hf ht
   go_wp2_with fail
   rw [← HZ.out]
   refine (trainCheck_any s F G _ _ _ _ _ _ _ _ _ _ _ (h0.alloc _) (h1.alloc _)).mono ?_
   rintro e w1 ⟨rfl,hb1⟩
   rw [HZ.out] at hb1 ⊢
   have BB1:=BB.keep hb1
   have d2:=BB1.cell 2
   by_cases hsf:s.fault=0
   ·have HE:Hid (errV s.fault=.nilIface):=Lib.hid (errV_nil hsf)
    rw [HE.out]
    by_cases e4:999999980<z
    ·have HF:Hid (drillFault s L every Fs=1):=Lib.hid (by rw [HD2.out,if_neg (by simp [hsf]),if_pos e4])
     clear hsf
     go_wp2
     go_ret
     exact ⟨by rw [HF.out,errV_err (by omega)];rfl,(Below.x1 hb1)⟩
    ·have HF:Hid (drillFault s L every Fs=0):=Lib.hid (by rw [HD2.out,if_neg (by simp [hsf]),if_neg e4])
     have e4f:(999999980<z)=False:=by simp;omega
     clear hsf
     go_wp2
     go_ret
     exact ⟨by rw [HF.out,errV_nil rfl];rfl,(Below.x1 hb1)⟩
   ·have HE:Hid (errV s.fault=.iface 36 (.int .i64 s.fault)):=Lib.hid (errV_err hsf)
    have HF:Hid (drillFault s L every Fs=s.fault):=Lib.hid (by rw [HD2.out,if_pos hsf])
    have HNZ:Hid (s.fault≠0):=Lib.hid hsf
    rw [HE.out]
    clear hsf
    go_wp2
    go_ret
    exact ⟨by rw [HF.out,errV_err HNZ.out];rfl,(Below.x1 hb1)⟩
end Go.Proofs.YtchngeagnlngaaaGreatDoor
end
