/- Texts joined: Net1, Step1. -/
import Derived.Test.YtchngeagnlngaaaGreatDoorJ02
import Derived.Test.YtchngeagnlngaaaGreatDoorJ06
import Derived.Test.YtchngeagnlngaaaGreatDoorJ18
import Derived.Test.YtchngeagnlngaaaGreatDoorJ08
import Derived.Test.YtchngeagnlngaaaGreatDoorJ16
import Derived.Test.YtchngeagnlngaaaGreatDoorJ21
import Derived.Test.YtchngeagnlngaaaGreatDoorJ09
import Derived.Test.YtchngeagnlngaaaGreatDoorJ05
import Derived.Test.YtchngeagnlngaaaGreatDoorJ01
import Derived.Deep.DeepCutAuto
import Derived.BigQuiet
import Derived.BigRegion
set_option linter.unusedVariables false
set_option linter.unusedSimpArgs false
set_option linter.unusedSectionVars false
section
namespace Go.Proofs.YtchngeagnlngaaaGreatDoor
open Go.RowKit Gal
set_option maxRecDepth 100000
set_option maxHeartbeats 4000000
section
variable (ls:List Lay) (F:Nat→Prop) (a:Option Addr) (n k b o:Nat) (i:Int) (w:World) (h:RowAt Form.lay w F a n k b o ls) (hi:-9223372036854775808≤i∧i≤9223372036854775807)
include h hi
theorem netCheck_any :
  Calls Tryz.prog 83 #[.slice a n k,.int .i64 i] w fun e w'=>e=.returned (.tuple #[.int .i64 (okOr (netWideFault ls i) (netW ls i n)),errV (netWideFault ls i)])∧Below w.heap.size w w'
 := by
 have hl:=h.len
 have hm:=h.max
 unfold maxLen at hm
 by_cases h12:12<n
 ·have hf:netWideFault ls i=3:=by unfold netWideFault;rw [if_pos (by omega)]
  rw [hf,okOr_bad (by omega),errV_err (by omega)]
  clear hf
  go_enter Tryz.func83,Tryz.ntmps83
  go_wp2
  refine bodyPost_ret (v:=.tuple #[.int .i64 0,.iface 36 (.int .i64 3)]) (by simp [results,Tryz.results83,go_sem]) rfl ⟨?_,?_⟩
  ·rfl
  ·exact Below.refl _ _
 ·by_cases h0:n=0∧(i<0∨12<i)
  ·have hf:netWideFault ls i=1:=by unfold netWideFault;rw [if_neg (by omega),if_pos (by rw [hl];exact h0)]
   rw [hf,okOr_bad (by omega),errV_err (by omega)]
   clear hf
   obtain ⟨rfl,h1⟩:=h0
   rcases h1 with h1|h1
   ·go_enter Tryz.func83,Tryz.ntmps83
    go_wp2
    refine bodyPost_ret (v:=.tuple #[.int .i64 0,.iface 36 (.int .i64 1)]) (by simp [results,Tryz.results83,go_sem]) rfl ⟨?_,?_⟩
    ·rfl
    ·exact Below.refl _ _
   ·go_enter Tryz.func83,Tryz.ntmps83
    go_wp2
    refine bodyPost_ret (v:=.tuple #[.int .i64 0,.iface 36 (.int .i64 1)]) (by simp [results,Tryz.results83,go_sem]) rfl ⟨?_,?_⟩
    ·rfl
    ·exact Below.refl _ _
  ·have hf:netWideFault ls i=wideTo ls i n:=by unfold netWideFault;rw [if_neg (by omega),if_neg (by rw [hl];exact h0),hl]
   rw [hf]
   have H0:=Lib.hid h0
   clear hf h0
   by_cases hn:n=0
   ·subst hn
    have h1:0≤i:=by have:=H0.out;omega
    have h2:i≤12:=by have:=H0.out;omega
    rw [show wideTo ls i 0=0 from rfl,okOr_ok rfl,errV_nil rfl]
    show Calls _ _ _ _ fun e w'=>e=.returned (.tuple #[.int .i64 i,.nilIface])∧_
    go_enter Tryz.func83,Tryz.ntmps83
    go_wp2
    go_loopw [1,26] (fun s j wr=>j=.int .i64 0∧s=.int .i64 i∧Below w.heap.size w wr) (fun _ _ _=>0)
    case atStart=>exact ⟨rfl,rfl,Below.refl _ _⟩
    case round=>
     obtain ⟨rfl,rfl,hbr⟩:=hrel
     go_wp2
     refine bodyPost_ret (v:=.tuple #[.int .i64 i,.nilIface]) (by simp [results,Tryz.results83,go_sem]) rfl ⟨?_,?_⟩
     ·rfl
     ·exact hbr
   ·have hne:((n:Int) == 0)=false:=by simp;omega
    have key:∀ K,Calls Tryz.prog 83 #[.slice a n k,.int .i64 i] w K→Calls Tryz.prog 83 #[.slice a n k,.int .i64 i] w K:=fun K h=>h
    clear key
    go_enter Tryz.func83,Tryz.ntmps83
    go_wp2
    all_goals (
     go_loopw [1,26] (fun s j wr=>∃ t:Nat,t≤n∧j=.int .i64 t∧s=.int .i64 (netW ls i t)∧wideTo ls i t=0∧Below w.heap.size w wr) (fun _ j _=>n - (intOf j).toNat)
     case atStart=>exact ⟨0,Nat.zero_le _,rfl,rfl,rfl,Below.refl _ _⟩
     case round=>
      obtain ⟨t,ht,rfl,rfl,hw0,hbr⟩:=hrel
      have HW:=Lib.hid hw0
      have hbd:-9223372036854775808≤netW ls i t∧netW ls i t≤9223372036854775807:=by
       rcases Nat.eq_zero_or_pos t with rfl|hp
       ·exact hi
       ·have:=netW_bd hw0 hp;omega
      clear hw0
      by_cases hlt:t<n
      ·obtain rfl:=h.ptr (by omega)
       obtain ⟨a1,n1,k1,b1,o1,a2,n2,k2,b2,o2,c0,c1,c2,c3,c4,c5,c6,x1,x2⟩:=lay_cells (h.keep hbr) hlt
       by_cases hf:(lx ls t).wideFault (netW ls i t)=0
       ·have HF:=Lib.hid hf
        have HE:Hid (errV ((lx ls t).wideFault (netW ls i t))=.nilIface):=Lib.hid (errV_nil hf)
        have HK:Hid (okOr ((lx ls t).wideFault (netW ls i t)) ((lx ls t).wide (netW ls i t))=netW ls i (t+1)):=Lib.hid (okOr_ok hf)
        clear hf
        go_wp2_with fail
        refine (layWide_any (lx ls t) (netW ls i t) _ _ ⟨_,_,_,_,_,_,_,_,_,_,rfl,x1.alloc _,x2.alloc _⟩ hbd).mono ?_
        rw [HE.out,HK.out]
        rintro e w1 ⟨rfl,hb1⟩
        have hbe:Below w.heap.size w w1:=(Below.y1 hb1 hbr)
        go_wp2
        go_roundw
        case rel=>exact ⟨t+1,by omega,by go_num,rfl,by rw [wideTo_succ HW.out];exact HF.out,hbe⟩
        case measure=>simp [intOf];omega
       ·have HF:=Lib.hid hf
        have HE:Hid (errV ((lx ls t).wideFault (netW ls i t))=.iface 36 (.int .i64 ((lx ls t).wideFault (netW ls i t)))):=Lib.hid (errV_err hf)
        have HK:Hid (okOr ((lx ls t).wideFault (netW ls i t)) ((lx ls t).wide (netW ls i t))=0):=Lib.hid (okOr_bad hf)
        clear hf
        go_wp2_with fail
        refine (layWide_any (lx ls t) (netW ls i t) _ _ ⟨_,_,_,_,_,_,_,_,_,_,rfl,x1.alloc _,x2.alloc _⟩ hbd).mono ?_
        rw [HE.out,HK.out]
        rintro e w1 ⟨rfl,hb1⟩
        have hbe:Below w.heap.size w w1:=(Below.y1 hb1 hbr)
        go_wp2
        have hs:wideTo ls i (t+1)=(lx ls t).wideFault (netW ls i t):=wideTo_succ HW.out
        have hst:wideTo ls i n=(lx ls t).wideFault (netW ls i t):=by rw [wideTo_stop (show t+1≤n by omega) (by rw [hs];exact HF.out),hs]
        refine bodyPost_ret (v:=.tuple #[.int .i64 0,.iface 36 (.int .i64 ((lx ls t).wideFault (netW ls i t)))]) (by simp [results,Tryz.results83,go_sem]) rfl ⟨?_,?_⟩
        ·rw [hst,HE.out,okOr_bad HF.out]
        ·exact hbe
      ·obtain rfl:t=n:=by omega
       go_wp2
       refine bodyPost_ret (v:=.tuple #[.int .i64 (netW ls i t),.nilIface]) (by simp [results,Tryz.results83,go_sem]) rfl ⟨?_,?_⟩
       ·rw [HW.out,okOr_ok rfl,errV_nil rfl]
       ·exact hbr)
end
end Go.Proofs.YtchngeagnlngaaaGreatDoor
end
section
namespace Go.Proofs.YtchngeagnlngaaaGreatDoor
open Go.RowKit Gal
set_option maxRecDepth 100000
set_option maxHeartbeats 2000000
theorem ints_pad' {w:World} {b n:Nat} {g:Nat→Int} {t:TypeId} (h:Box w b ((pad g n n).map (Value.int .i64)) t) (hl:n≤maxLen):IntsAt w (some ⟨b,0,none⟩) n n b 0 (upto g n):=by
 rw [pad_full] at h
 refine ⟨upto_length _ _,Nat.le_refl _,hl,fun _=>rfl,fun _=>h.lt,fun i hi=>?_⟩
 rw [Nat.zero_add,h.cell,List.getElem?_map]
 unfold ix
 rw [List.getElem?_eq_getElem (by rw [upto_length];exact hi)]
 rfl
theorem turned_any (mw mv md:Mat) (ln kp:Int) (a0 a1 a2:Option Addr) (n k0 k1 k2 b0 b1 b2 o0 o1 o2:Nat) (w:World) (hn:n≤288) (x0:IntsAt w a0 n k0 b0 o0 mw.cells) (x1:IntsAt w a1 n k1 b1 o1 mv.cells) (x2:IntsAt w a2 n k2 b2 o2 md.cells) :
    Calls Tryz.prog 109 #[.agg #[.int .i64 mw.rows,.int .i64 mw.cols,.slice a0 n k0],.agg #[.int .i64 mv.rows,.int .i64 mv.cols,.slice a1 n k1],.agg #[.int .i64 md.rows,.int .i64 md.cols,.slice a2 n k2],.agg #[.int .i64 ln,.int .i64 kp]] w fun e w'=>
      ∃ x y,e=.returned (.tuple #[x,y])∧MatNew w.heap.size w' x (stepTo mw mv md ln kp)∧MatNew w.heap.size w' y (stepSpeed mw mv md kp)∧Below w.heap.size w w':=by
  obtain ⟨i0,hi,hz0,hz1,hz2⟩:=info_parts info_int
  have hmk:=fun W=>run_make_rowN (P:=Tryz.prog) 29 3 i0 _ Tryz.underlying29 hi hz0 .i64 .i64 n n (n:Int) (n:Int) rfl rfl (Nat.le_refl _) (by rw [hz2];omega) (by omega) W
  rw [hz1,Nat.mul_one] at hmk
  have hmc:(madeCells (Value.int .i64 0).cells n)=((zeros n).map (Value.int .i64)).toArray:=by
    apply Array.toList_inj.1
    show (madeCells #[Value.int .i64 0] n).toList=_
    rw [toList_madeCells_one]
    simp [zeros]
  rw [hmc] at hmk
  clear hmc
  have HL:=Lib.hid x0.len
  have l0:=x0.lt
  have l1:=x1.lt
  have l2:=x2.lt
  go_enter Tryz.func109,Tryz.ntmps109
  go_wp2_with fail
  obtain ⟨w0,hw0,B0,B1,B2,B3,B4,B5,y0,y1,y2,hb0⟩:∃ w0,((((((w.alloc (.cells #[.int .i64 mw.rows,.int .i64 mw.cols,.slice a0 n k0] 41)).alloc (.cells #[.int .i64 mv.rows,.int .i64 mv.cols,.slice a1 n k1] 41)).alloc (.cells #[.int .i64 md.rows,.int .i64 md.cols,.slice a2 n k2] 41)).alloc (.cells #[.int .i64 ln,.int .i64 kp] 28)).alloc (.cells #[.int .i64 0,.int .i64 0,.slice none 0 0] 41)).alloc (.cells #[.int .i64 0,.int .i64 0,.slice none 0 0] 41))=w0 ∧
      Box w0 w.heap.size [.int .i64 mw.rows,.int .i64 mw.cols,.slice a0 n k0] 41∧Box w0 (w.heap.size+1) [.int .i64 mv.rows,.int .i64 mv.cols,.slice a1 n k1] 41∧Box w0 (w.heap.size+1+1) [.int .i64 md.rows,.int .i64 md.cols,.slice a2 n k2] 41 ∧
      Box w0 (w.heap.size+1+1+1) [.int .i64 ln,.int .i64 kp] 28∧Box w0 (w.heap.size+1+1+1+1) [.int .i64 0,.int .i64 0,.slice none 0 0] 41∧Box w0 (w.heap.size+1+1+1+1+1) [.int .i64 0,.int .i64 0,.slice none 0 0] 41 ∧
      IntsAt w0 a0 n k0 b0 o0 mw.cells∧IntsAt w0 a1 n k1 b1 o1 mv.cells∧IntsAt w0 a2 n k2 b2 o2 md.cells∧Below w.heap.size w w0:=
    ⟨_,rfl,Box.x0,Box.x0,Box.x0,Box.x0,Box.x0,Box.x0,x0.k,x1.k,x2.k,Below.x0⟩
  rw [hw0]
  clear hw0 x0 x1 x2
  have hz0':w.heap.size+1+1+1+1+1<w0.heap.size:=B5.lt
  have B0:=B0
  have B0c:=B0.cell
  have B0f:=B0.thawed
  have B0z:=B0.lt
  have B0k:=lt_add B0z
  have B1:=B1
  have B1c:=B1.cell
  have B1f:=B1.thawed
  have B1z:=B1.lt
  have B1k:=lt_add B1z
  have B2:=B2
  have B2c:=B2.cell
  have B2f:=B2.thawed
  have B2z:=B2.lt
  have B2k:=lt_add B2z
  have B3:=B3
  have B3c:=B3.cell
  have B3f:=B3.thawed
  have B3z:=B3.lt
  have B3k:=lt_add B3z
  have B4:=B4
  have B4c:=B4.cell
  have B4f:=B4.thawed
  have B4z:=B4.lt
  have B4k:=lt_add B4z
  have B5:=B5
  have B5c:=B5.cell
  have B5f:=B5.thawed
  have B5z:=B5.lt
  have B5k:=lt_add B5z
  go_cut [10] (fun s wx=>∃ p q,s=.pointer (some ⟨p,0,none⟩)∧p≠q∧w0.heap.size≤p∧w0.heap.size≤q∧Box wx p [.int .i64 mw.rows,.int .i64 mw.cols,.slice (some ⟨q,0,none⟩) n n] 41∧Box wx q ((zeros n).map (Value.int .i64)) 3∧Below w0.heap.size w0 wx)
  case first=>
    go_region
    all_goals (
      go_wp2_with fail
      go_meet
      first
      | exact ⟨_,_,rfl,by omega,by omega,by omega,Box.new' _ _ _ _ (by simp),(Box.new' _ _ _ _ (by simp)).alloc _,Below.x0⟩
      | exact ⟨_,_,rfl,by omega,by omega,by omega,(Box.new' _ _ _ _ (by simp)).alloc _,Box.new' _ _ _ _ (by simp),Below.x0⟩)
  case rest =>
    obtain ⟨p1,q1,rfl,hn1,hp1,hq1,P1,Q1,hbA⟩:=hcut
    have hkwc:Below w0.heap.size w0 wc:=(Below.x1 hbA)
    replace B0:=B0.keep hkwc
    replace B0c:=B0.cell
    replace B0f:=B0.thawed
    replace B0z:=B0.lt
    replace B0k:=lt_add B0z
    replace B1:=B1.keep hkwc
    replace B1c:=B1.cell
    replace B1f:=B1.thawed
    replace B1z:=B1.lt
    replace B1k:=lt_add B1z
    replace B2:=B2.keep hkwc
    replace B2c:=B2.cell
    replace B2f:=B2.thawed
    replace B2z:=B2.lt
    replace B2k:=lt_add B2z
    replace B3:=B3.keep hkwc
    replace B3c:=B3.cell
    replace B3f:=B3.thawed
    replace B3z:=B3.lt
    replace B3k:=lt_add B3z
    replace B4:=B4.keep hkwc
    replace B4c:=B4.cell
    replace B4f:=B4.thawed
    replace B4z:=B4.lt
    replace B4k:=lt_add B4z
    replace B5:=B5.keep hkwc
    replace B5c:=B5.cell
    replace B5f:=B5.thawed
    replace B5z:=B5.lt
    replace B5k:=lt_add B5z
    replace y0:=y0.keep hkwc
    replace y1:=y1.keep hkwc
    replace y2:=y2.keep hkwc
    have P1:=P1
    have P1c:=P1.cell
    have P1f:=P1.thawed
    have P1z:=P1.lt
    have P1k:=lt_add P1z
    have Q1:=Q1
    have Q1c:=Q1.cell
    have Q1f:=Q1.thawed
    have Q1z:=Q1.lt
    have Q1k:=lt_add Q1z
    obtain ⟨wA,hwA⟩:∃ wA,wA=wc:=⟨_,rfl⟩
    rw [← hwA] at B0 B0c B0f B0z B0k B1 B1c B1f B1z B1k B2 B2c B2f B2z B2k B3 B3c B3f B3z B3k B4 B4c B4f B4z B4k B5 B5c B5f B5z B5k y0 y1 y2 P1 P1c P1f P1z P1k Q1 Q1c Q1f Q1z Q1k hbA ⊢
    have P1z':=P1z
    have Q1z':=Q1z
    clear hwA hkwc
    go_wp2_with fail
    go_cut [11] (fun s wx=>∃ p q,s=.pointer (some ⟨p,0,none⟩)∧p≠q∧wA.heap.size≤p∧wA.heap.size≤q∧Box wx p [.int .i64 mw.rows,.int .i64 mw.cols,.slice (some ⟨q,0,none⟩) n n] 41∧Box wx q ((zeros n).map (Value.int .i64)) 3∧Below wA.heap.size wA wx)
    case first=>
      go_region
      all_goals (
        go_wp2_with fail
        go_meet
        first
        | exact ⟨_,_,rfl,by omega,by omega,by omega,Box.new' _ _ _ _ (by simp),(Box.new' _ _ _ _ (by simp)).alloc _,Below.x0⟩
        | exact ⟨_,_,rfl,by omega,by omega,by omega,(Box.new' _ _ _ _ (by simp)).alloc _,Box.new' _ _ _ _ (by simp),Below.x0⟩)
    case rest =>
      obtain ⟨p2,q2,rfl,hn2,hp2,hq2,P2,Q2,hbB⟩:=hcut
      have hkwc:Below wA.heap.size wA wc:=(Below.x1 hbB)
      replace B0:=B0.keep hkwc
      replace B0c:=B0.cell
      replace B0f:=B0.thawed
      replace B0z:=B0.lt
      replace B0k:=lt_add B0z
      replace B1:=B1.keep hkwc
      replace B1c:=B1.cell
      replace B1f:=B1.thawed
      replace B1z:=B1.lt
      replace B1k:=lt_add B1z
      replace B2:=B2.keep hkwc
      replace B2c:=B2.cell
      replace B2f:=B2.thawed
      replace B2z:=B2.lt
      replace B2k:=lt_add B2z
      replace B3:=B3.keep hkwc
      replace B3c:=B3.cell
      replace B3f:=B3.thawed
      replace B3z:=B3.lt
      replace B3k:=lt_add B3z
      replace B4:=B4.keep hkwc
      replace B4c:=B4.cell
      replace B4f:=B4.thawed
      replace B4z:=B4.lt
      replace B4k:=lt_add B4z
      replace B5:=B5.keep hkwc
      replace B5c:=B5.cell
      replace B5f:=B5.thawed
      replace B5z:=B5.lt
      replace B5k:=lt_add B5z
      replace P1:=P1.keep hkwc
      replace P1c:=P1.cell
      replace P1f:=P1.thawed
      replace P1z:=P1.lt
      replace P1k:=lt_add P1z
      replace Q1:=Q1.keep hkwc
      replace Q1c:=Q1.cell
      replace Q1f:=Q1.thawed
      replace Q1z:=Q1.lt
      replace Q1k:=lt_add Q1z
      replace y0:=y0.keep hkwc
      replace y1:=y1.keep hkwc
      replace y2:=y2.keep hkwc
      have P2:=P2
      have P2c:=P2.cell
      have P2f:=P2.thawed
      have P2z:=P2.lt
      have P2k:=lt_add P2z
      have Q2:=Q2
      have Q2c:=Q2.cell
      have Q2f:=Q2.thawed
      have Q2z:=Q2.lt
      have Q2k:=lt_add Q2z
      have hbw:Below w.heap.size w wc:=(by repeat (first|(with_reducible first|exact Below.refl _ _|exact hb0|refine Below.al ?_ _|refine Below.drN ?_ _|refine Below.drew ?_|refine Below.sx ?_ _|refine Below.go ?_ hbB|refine Below.go ?_ hbA)|exact Below.refl _ _|exact hb0))
      have hz0:w.heap.size+1+1+1+1+1<w0.heap.size:=hz0'
      have hzA:w0.heap.size≤wA.heap.size:=hbA.size
      obtain ⟨g,hg⟩:∃ g:Nat→Int,g=fun k=>add (mul (ix mv.cells k) kp) (ix md.cells k):=⟨_,rfl⟩
      obtain ⟨f,hf⟩:∃ f:Nat→Int,f=fun k=>sub (ix mw.cells k) (mul (g k) ln):=⟨_,rfl⟩
      have HG:Hid (∀ k,g k=add (mul (ix mv.cells k) kp) (ix md.cells k)):=Lib.hid fun k=>by rw [hg]
      have HF:Hid (∀ k,f k=sub (ix mw.cells k) (mul (g k) ln)):=Lib.hid fun k=>by rw [hf]
      have HS1:Hid (stepTo mw mv md ln kp=⟨mw.rows,mw.cols,upto f n⟩):=Lib.hid (by unfold stepTo;rw [HL.out,hf,hg])
      have HS2:Hid (stepSpeed mw mv md kp=⟨mw.rows,mw.cols,upto g n⟩):=Lib.hid (by unfold stepSpeed;rw [HL.out,hg])
      clear hf hg hmk
      have hn12:q1≠q2:=by omega
      go_wp2_with fail
      go_loopw [34,12] (fun i _ wr=>∃ k:Nat,k≤n∧i=.int .i64 k∧Far (fun b=>b=q1∨b=q2) wc wr∧Box wr q1 ((pad f n k).map (Value.int .i64)) 3∧Box wr q2 ((pad g n k).map (Value.int .i64)) 3) (fun i _ _=>n - (intOf i).toNat)
      case atStart=>exact ⟨0,Nat.zero_le _,rfl,Far.refl _ _,by rw [pad_zero];exact Q1,by rw [pad_zero];exact Q2⟩
      case round=>
        obtain ⟨k,hk,rfl,hfr,R1,R2⟩:=hrel
        clear Q1 Q1c Q1f Q1z Q1k Q2 Q2c Q2f Q2z Q2k
        replace B0:=B0.farS hfr (by omega)
        have B0c:=B0.cell
        have B0f:=B0.thawed
        have B0z:=B0.lt
        have B0k:=lt_add B0z
        replace B1:=B1.farS hfr (by omega)
        have B1c:=B1.cell
        have B1f:=B1.thawed
        have B1z:=B1.lt
        have B1k:=lt_add B1z
        replace B2:=B2.farS hfr (by omega)
        have B2c:=B2.cell
        have B2f:=B2.thawed
        have B2z:=B2.lt
        have B2k:=lt_add B2z
        replace B3:=B3.farS hfr (by omega)
        have B3c:=B3.cell
        have B3f:=B3.thawed
        have B3z:=B3.lt
        have B3k:=lt_add B3z
        replace B4:=B4.farS hfr (by omega)
        have B4c:=B4.cell
        have B4f:=B4.thawed
        have B4z:=B4.lt
        have B4k:=lt_add B4z
        replace B5:=B5.farS hfr (by omega)
        have B5c:=B5.cell
        have B5f:=B5.thawed
        have B5z:=B5.lt
        have B5k:=lt_add B5z
        replace P1:=P1.farS hfr (by omega)
        have P1c:=P1.cell
        have P1f:=P1.thawed
        have P1z:=P1.lt
        have P1k:=lt_add P1z
        replace P2:=P2.farS hfr (by omega)
        have P2c:=P2.cell
        have P2f:=P2.thawed
        have P2z:=P2.lt
        have P2k:=lt_add P2z
        replace y0:=y0.farS hfr (by intro hn e;have:=l0 hn;omega)
        replace y1:=y1.farS hfr (by intro hn e;have:=l1 hn;omega)
        replace y2:=y2.farS hfr (by intro hn e;have:=l2 hn;omega)
        by_cases hlt:k<n
        · obtain rfl:=y0.ptr (by omega)
          obtain rfl:=y1.ptr (by omega)
          obtain rfl:=y2.ptr (by omega)
          have c0:=y0.cell k hlt
          have c1:=y1.cell k hlt
          have c2:=y2.cell k hlt
          have cc:=R2.icell (k:=k) (by rw [pad_length];exact hlt)
          rw [pad_ix hlt,if_neg (Nat.lt_irrefl _)] at cc
          have cf:=R2.thawed k
          have hltI:(k:Int)<(n:Int):=by omega
          have hi3:(0:Int)≤(k:Int):=by omega
          go_wp2_with fail
          refine wp_region_still_tail 17 (by kernel_rfl) (by kernel_rfl) ?_
          simp only [List.take_succ_cons,List.take_zero,List.drop_succ_cons,List.drop_zero]
          repeat (first|still_call (still0 (mul_any _ _ _))|still_call (still0 (add_any _ _ _))|still_step)
          refine wpStill_nil ?_
          go_wp2_with fail
          obtain ⟨wq,hwq,hfq,hrq,S1,S2⟩:∃ wq,(wr.setCell ⟨q2,k,none⟩ (Value.int .i64 (add (mul (ix mv.cells k) kp) (ix md.cells k)))).drew=wq∧Far (fun b=>b=q1∨b=q2) wc wq∧Far (fun b=>b=q1∨b=q2) wr wq ∧
              Box wq q1 ((pad f n k).map (Value.int .i64)) 3∧Box wq q2 ((pad g n (k+1)).map (Value.int .i64)) 3:=by
            refine ⟨_,rfl,(hfr.st (fun _=>Or.inr rfl) _).drew,((Far.refl _ _).st (fun _=>Or.inr rfl) _).drew,(R1.far hn12 _).drew,?_⟩
            rw [← HG.out k,← pad_set hlt]
            exact (R2.iset k _).drew
          rw [hwq]
          clear hwq hfr R1 R2 cc cf c1 c2
          replace B0:=B0.farS hrq (by omega)
          have B0c:=B0.cell
          have B0f:=B0.thawed
          have B0z:=B0.lt
          have B0k:=lt_add B0z
          replace B1:=B1.farS hrq (by omega)
          have B1c:=B1.cell
          have B1f:=B1.thawed
          have B1z:=B1.lt
          have B1k:=lt_add B1z
          replace B2:=B2.farS hrq (by omega)
          have B2c:=B2.cell
          have B2f:=B2.thawed
          have B2z:=B2.lt
          have B2k:=lt_add B2z
          replace B3:=B3.farS hrq (by omega)
          have B3c:=B3.cell
          have B3f:=B3.thawed
          have B3z:=B3.lt
          have B3k:=lt_add B3z
          replace B4:=B4.farS hrq (by omega)
          have B4c:=B4.cell
          have B4f:=B4.thawed
          have B4z:=B4.lt
          have B4k:=lt_add B4z
          replace B5:=B5.farS hrq (by omega)
          have B5c:=B5.cell
          have B5f:=B5.thawed
          have B5z:=B5.lt
          have B5k:=lt_add B5z
          replace P1:=P1.farS hrq (by omega)
          have P1c:=P1.cell
          have P1f:=P1.thawed
          have P1z:=P1.lt
          have P1k:=lt_add P1z
          replace P2:=P2.farS hrq (by omega)
          have P2c:=P2.cell
          have P2f:=P2.thawed
          have P2z:=P2.lt
          have P2k:=lt_add P2z
          replace y0:=y0.farS hrq (by intro hn e;have:=l0 hn;omega)
          clear c0
          have c0:=y0.cell k hlt
          have cc:=S1.icell (k:=k) (by rw [pad_length];exact hlt)
          rw [pad_ix hlt,if_neg (Nat.lt_irrefl _)] at cc
          have cf:=S1.thawed k
          have ce:=S2.icell (k:=k) (by rw [pad_length];exact hlt)
          rw [pad_ix hlt,if_pos (Nat.lt_succ_self _)] at ce
          refine wp_region_still_tail 17 (by kernel_rfl) (by kernel_rfl) ?_
          simp only [List.take_succ_cons,List.take_zero,List.drop_succ_cons,List.drop_zero]
          repeat (first|still_call (still0 (mul_any _ _ _))|still_call (still0 (sub_any _ _ _))|still_step)
          refine wpStill_nil ?_
          go_wp2_with fail
          have hfe:Far (fun b=>b=q1∨b=q2) wc (wq.setCell ⟨q1,k,none⟩ (Value.int .i64 (sub (ix mw.cells k) (mul (g k) ln)))).drew:=(hfq.st (fun _=>Or.inl rfl) _).drew
          have T1:Box (wq.setCell ⟨q1,k,none⟩ (Value.int .i64 (sub (ix mw.cells k) (mul (g k) ln)))).drew q1 ((pad f n (k+1)).map (Value.int .i64)) 3:=by
            rw [← HF.out k,← pad_set hlt]
            exact (S1.iset k _).drew
          have T2:Box (wq.setCell ⟨q1,k,none⟩ (Value.int .i64 (sub (ix mw.cells k) (mul (g k) ln)))).drew q2 ((pad g n (k+1)).map (Value.int .i64)) 3:=(S2.far (Ne.symm hn12) _).drew
          go_roundw
          case rel=>exact ⟨k+1,by omega,by go_num,hfe,T1,T2⟩
          case measure=>simp [intOf];omega
        · obtain rfl:k=n:=by omega
          have hbe:Below w.heap.size w wr:=Far.toBelow hbw hfr (by have:=hbw.size;omega) (fun b hb=>by rcases hb with rfl|rfl <;> omega)
          have I1:=ints_pad' R1 (by unfold maxLen;omega)
          have I2:=ints_pad' R2 (by unfold maxLen;omega)
          have hE:((k:Int)<(k:Int))=False:=by simp
          have hl1:0<k→w.heap.size+1+1+1+1+1<q1:=fun _=>by omega
          have hl2:0<k→w.heap.size+1+1+1+1+1<q2:=fun _=>by omega
          go_wp2_with fail
          go_region
          all_goals (
            go_wp2_with fail
            refine bodyPost_ret (v:=.tuple #[.agg #[.int .i64 mw.rows,.int .i64 mw.cols,.slice (some ⟨q1,0,none⟩) k k],.agg #[.int .i64 mw.rows,.int .i64 mw.cols,.slice (some ⟨q2,0,none⟩) k k]]) (by simp [results,Tryz.results109,go_sem,B4c,B5c]) rfl ⟨_,_,rfl,?_,?_,?_⟩
            · rw [HS1.out]
              exact MatNew.mk (b:=q1) (off:=0) (fun _=>by omega) (by repeat (first|(with_reducible first|exact I1|refine IntsAt.alloc ?_ _|refine IntsAt.drewN ?_ _|refine IntsAt.drew ?_|(refine IntsAt.set ?_ ?_ _;rotate_left 1;(intro h0;have hq0:=hl1 h0;first|(dsimp only;omega)|omega|(simp;omega)|simp)))|exact I1))
            · rw [HS2.out]
              exact MatNew.mk (b:=q2) (off:=0) (fun _=>by omega) (by repeat (first|(with_reducible first|exact I2|refine IntsAt.alloc ?_ _|refine IntsAt.drewN ?_ _|refine IntsAt.drew ?_|(refine IntsAt.set ?_ ?_ _;rotate_left 1;(intro h0;have hq0:=hl2 h0;first|(dsimp only;omega)|omega|(simp;omega)|simp)))|exact I2))
            · exact (Below.y0 hbe))
end Go.Proofs.YtchngeagnlngaaaGreatDoor
end
