/- Texts joined: RNet2, PBackR, RLay4. -/
import Derived.Test.YtchngeagnlngaaaGreatDoorJ37
import Derived.Test.YtchngeagnlngaaaGreatDoorJ45
import Derived.Test.YtchngeagnlngaaaGreatDoorJ29
import Derived.Test.YtchngeagnlngaaaGreatDoorJ46
import Derived.Test.YtchngeagnlngaaaGreatDoorJ02
import Derived.Test.YtchngeagnlngaaaGreatDoorJ27
set_option linter.unusedVariables false
set_option linter.unusedSimpArgs false
set_option linter.unusedSectionVars false
section
namespace Gal
open Go Go.RowKit
section
variable {w w':World} {b i:Nat} {v0 v1 v2 v3 v4 v5 v6:Value}
theorem cells7b {c:Nat} {t:TypeId} {x y z:Value} (h:Cells7 w b i v0 v1 v2 v3 v4 v5 v6) (k:Box w c [x,y,z] t) :
  w.cell? ⟨b,i,none⟩=some v0∧w.cell? ⟨b,i+1,none⟩=some v1∧w.cell? ⟨b,i+2,none⟩=some v2∧w.cell? ⟨b,i+3,none⟩=some v3∧w.cell? ⟨b,i+4,none⟩=some v4∧w.cell? ⟨b,i+5,none⟩=some v5∧w.cell? ⟨b,i+6,none⟩=some v6∧w.cell? ⟨c,0,none⟩=some x∧w.cell? ⟨c,1,none⟩=some y∧w.cell? ⟨c,2,none⟩=some z:=
 ⟨h.c0,h.c1,h.c2,h.c3,h.c4,h.c5,h.c6,k.cell 0,k.cell 1,k.cell 2⟩
end
end Gal
namespace Go.Proofs.YtchngeagnlngaaaGreatDoor
open Go.RowKit Gal
set_option maxRecDepth 100000
set_option maxHeartbeats 4000000
section
variable (ls:List Lay) (F:Nat→Prop) (a:Option Addr) (n k b o:Nat) (x:Mat) (vx:Value) (w:World) (h:RowAt Form.lay w F a n k b o ls) (hx:MatAt w vx x)
include h hx
theorem refNetGo_any:Calls Tryz.prog 44 #[.slice a n k,vx] w fun e w'=>∃ v,e=.returned (.tuple #[v,.int .i64 (netGoFault ls x)])∧Below w.heap.size w w' ∧
      (netGoFault ls x=0→∃ a' k' b',v=.slice a' (n+1) k'∧RowAt Form.mat w' anyB a' (n+1) k' b' 0 (netOuts ls x n))∧(netGoFault ls x≠0→v=.slice none 0 0):=by
  obtain ⟨i0,hi,hz0,hz1,hz2⟩:=info_parts info_mat
  obtain ⟨ax,nx,kx,bx,ox,rfl,x0⟩:=hx
  have hl:=h.len
  have hm:=h.max
  unfold maxLen at hm
  by_cases h12:12<n
  · have hf:netGoFault ls x=3:=by unfold netGoFault;rw [if_pos (by omega)]
    rw [hf]
    go_enter Tryz.func44,Tryz.ntmps44
    go_wp2
    refine bodyPost_ret (v:=.tuple #[.slice none 0 0,.int .i64 3]) (by simp [results,Tryz.results44,go_sem]) rfl ⟨.slice none 0 0,?_,Below.x0,?_,?_⟩
    · rfl
    · exact fun h=>absurd h (by decide)
    · exact fun _=>rfl
  · by_cases hf : x.fault=0
    · have HF : Hid (netGoFault ls x=goTo ls x n):=Lib.hid (by unfold netGoFault;rw [if_neg (by omega),if_neg (by simp [hf]),hl])
      have HX:=Lib.hid hf
      clear hf
      rw [HF.out]
      have lx0:=x0.lt
      go_enter Tryz.func44,Tryz.ntmps44
      go_wp2_with fail
      refine (refMatFault_any x _ _ (MatAt.mk (x0.alloc _))).mono ?_
      rw [HX.out]
      rintro e w1 ⟨rfl,hb1⟩
      have B3:=(Box.new w [.int .i64 x.rows,.int .i64 x.cols,.slice ax nx kx] 41).keep hb1
      have B3c:=B3.cell
      have B3f:=B3.thawed
      have B3z:=B3.lt
      have B3k:=lt_add B3z
      have hz1':w.heap.size+1≤w1.heap.size:=by have:=hb1.size;simp at this;omega
      have hbw1:Below w.heap.size w w1:=(Below.x1 hb1)
      have x1:=(x0.alloc _).keep hb1
      have hown0:OwnRow Form.mat 41 (w1.alloc (.cells #[.int .i64 x.rows,.int .i64 x.cols,.slice ax nx kx] 41)) w1.heap.size (fun b=>b≠w.heap.size) (.slice (some ⟨w1.heap.size,0,none⟩) 1 1) (netOuts ls x 0):=
        own_one (Box.new _ _ _) ⟨ax,nx,kx,bx,ox,rfl,fun h=>⟨by have:=lx0 h;omega,by have:=lx0 h;omega⟩,x1.alloc _⟩ (Nat.le_refl _)
      go_wp2
      go_loopw [7,8] (fun s j wr=>∃ t:Nat,t≤n∧j=.int .i64 t∧goTo ls x t=0∧OwnRow Form.mat 41 wr w1.heap.size (fun b=>b≠w.heap.size) s (netOuts ls x t)∧Below w.heap.size w wr∧w1.heap.size≤wr.heap.size∧∃ ac nc kc bc oc,Box wr w.heap.size [.int .i64 (netTo ls x t).rows,.int .i64 (netTo ls x t).cols,.slice ac nc kc] 41∧IntsAt wr ac nc kc bc oc (netTo ls x t).cells∧(0<nc→bc≠w.heap.size)) (fun _ j _=>n - (intOf j).toNat)
      case atStart=>exact ⟨0,Nat.zero_le _,rfl,rfl,hown0,(Below.y0 hbw1),by simp,ax,nx,kx,bx,ox,B3.alloc _,x1.alloc _,fun h=>by have:=lx0 h;omega⟩
      case round=>
        clear hown0 B3 B3c B3f B3z B3k x1
        obtain ⟨t,ht,rfl,hg0,hown,hbr,hzr,ac,nc,kc,bc,oc,BX,xc,lc⟩:=hrel
        obtain ⟨av,cv,hv⟩:=hown.slice
        rw [netOuts_length] at hv
        subst hv
        have HL:=Lib.hid (netOuts_length ls x t)
        have hne:(Value.slice av (t+1) cv).ownBlock≠some w.heap.size:=fun e=>by have:=(hown.base_le _ e).1;omega
        have HG:=Lib.hid hg0
        clear hg0
        have BX:=BX
        have BXc:=BX.cell
        have BXf:=BX.thawed
        have BXz:=BX.lt
        have BXk:=lt_add BXz
        by_cases hlt:t<n
        · obtain rfl:=h.ptr (by omega)
          have hbs:b<w.heap.size:=h.lt (by omega)
          obtain ⟨a4,n4,k4,b4,o4,a5,n5,k5,b5,o5,c0,c1,c2,c3,c4,c5,c6,x4,x5⟩:=lay_cells (h.keep hbr) hlt
          have M7:Cells7 wr b (o+t*7) _ _ _ _ _ _ _:=⟨c0,c1,c2,c3,c4,c5,c6⟩
          clear c0 c1 c2 c3 c4 c5 c6
          have hi2:(t:Int)<(n:Int):=by omega
          have hi3:(0:Int)≤(t:Int):=by omega
          by_cases hff:(lx ls t).goFault (netTo ls x t)=0
          · have HFF:=Lib.hid hff
            clear hff
            go_wp2_with fail
            go_region_held3 (fun w'=>w'.cell? ⟨b,o+t*7,none⟩=some (.int .i64 (lx ls t).kind)∧w'.cell? ⟨b,o+t*7+1,none⟩=some (.int .i64 (lx ls t).W.rows)∧w'.cell? ⟨b,o+t*7+2,none⟩=some (.int .i64 (lx ls t).W.cols)∧w'.cell? ⟨b,o+t*7+3,none⟩=some (.slice a4 n4 k4)∧w'.cell? ⟨b,o+t*7+4,none⟩=some (.int .i64 (lx ls t).B.rows)∧w'.cell? ⟨b,o+t*7+5,none⟩=some (.int .i64 (lx ls t).B.cols)∧w'.cell? ⟨b,o+t*7+6,none⟩=some (.slice a5 n5 k5)∧w'.cell? ⟨w.heap.size,0,none⟩=some (.int .i64 (netTo ls x t).rows)∧w'.cell? ⟨w.heap.size,1,none⟩=some (.int .i64 (netTo ls x t).cols)∧w'.cell? ⟨w.heap.size,2,none⟩=some (.slice ac nc kc)) (exact cells7b (t:=41) (by repeat (first|(with_reducible first|exact M7|refine Cells7.alloc ?_ _|refine Cells7.drewN ?_ _|refine Cells7.drew ?_|(refine Cells7.far ?_ ?_ _;rotate_left 1;(first|(dsimp only;omega)|omega|(simp;omega)|simp))|refine Cells7.keep ?_ hb7)|exact M7)) (by first|exact BX.k1 hb7|exact BX.k)) ((go_at_call 72;go_must (refine (refGoFault_any (lx ls t) (netTo ls x t) _ _ _ ⟨_,_,_,_,_,_,_,_,_,_,rfl,(show IntsAt _ a4 n4 k4 b4 o4 (lx ls t).W.cells from x4.k),(show IntsAt _ a5 n5 k5 b5 o5 (lx ls t).B.cells from x5.k)⟩ (MatAt.mk (show IntsAt _ ac nc kc bc oc (netTo ls x t).cells from xc.k))).mono ?_);go_must (rw [HFF.out]);go_must (rintro e w7 ⟨rfl,hb7⟩)))
            have hbA:Below wr.heap.size wr w7:=(Below.x1 hb7)
            replace M7:=M7.keep hbA
            have hkw7:Below wr.heap.size wr w7:=(Below.x1 hbA)
            replace BX:=BX.keep hkw7
            replace BXc:=BX.cell
            replace BXf:=BX.thawed
            replace BXz:=BX.lt
            replace BXk:=lt_add BXz
            replace x4:=x4.keep hkw7
            replace x5:=x5.keep hkw7
            replace xc:=xc.keep hkw7
            replace hown:=hown.keep hkw7
            go_wp2_with fail
            have d0:=M7.c0
            have d1:=M7.c1
            have d2:=M7.c2
            have d3:=M7.c3
            have d4:=M7.c4
            have d5:=M7.c5
            have d6:=M7.c6
            go_region_law ((go_simp;go_at_call 73;refine (refGoOf_any (lx ls t) (netTo ls x t) _ _ _ ⟨_,_,_,_,_,_,_,_,_,_,rfl,(show IntsAt _ a4 n4 k4 b4 o4 (lx ls t).W.cells from x4.k),(show IntsAt _ a5 n5 k5 b5 o5 (lx ls t).B.cells from x5.k)⟩ (MatAt.mk (show IntsAt _ ac nc kc bc oc (netTo ls x t).cells from xc.k)) HFF.out).mono ?_;rintro e w8 ⟨v8,rfl,⟨a8,n8,k8,b8,o8,rfl,hn8,x8⟩,hb8⟩;have B8:Box w8 w.heap.size [.int .i64 (netTo ls x t).rows,.int .i64 (netTo ls x t).cols,.slice ac nc kc] 41:=Box.keep BX.k hb8;have B8c:=B8.cell;have B8f:=B8.thawed;have B8z:=B8.lt))
            all_goals (
              have hbB:Below w7.heap.size w7 w8:=(Below.x1 hb8)
              have l8:0<n8→w7.heap.size≤b8:=fun h=>by have:=hn8 h;simpa using this
              have hz7:wr.heap.size≤w7.heap.size:=hbA.size
              have hz8:w7.heap.size≤w8.heap.size:=hbB.size
              have hrow8:∀ q,(Value.slice av (t+1) cv).ownBlock=some q→w1.heap.size≤q∧q<w7.heap.size:=fun q hq=>hown.base_le q hq
              have hbw8:Below w.heap.size w w8:=(by repeat (first|(with_reducible first|exact Below.refl _ _|exact hbr|refine Below.al ?_ _|refine Below.drN ?_ _|refine Below.drew ?_|refine Below.sx ?_ _|refine Below.go ?_ hbB|refine Below.go ?_ hbA)|exact Below.refl _ _|exact hbr))
              obtain ⟨wq,hq,B9,x9,hownq,hbq,hzq⟩:∃ wq,((w8.setCell ⟨w.heap.size,0,none⟩ (.int .i64 ((lx ls t).go (netTo ls x t)).rows)).setCell ⟨w.heap.size,1,none⟩ (.int .i64 ((lx ls t).go (netTo ls x t)).cols)).setCell ⟨w.heap.size,2,none⟩ (.slice a8 n8 k8)=wq ∧
                  Box wq w.heap.size [.int .i64 (netTo ls x (t+1)).rows,.int .i64 (netTo ls x (t+1)).cols,.slice a8 n8 k8] 41∧IntsAt wq a8 n8 k8 b8 o8 (netTo ls x (t+1)).cells∧OwnRow Form.mat 41 wq w1.heap.size (fun b=>b≠w.heap.size) (.slice av (t+1) cv) (netOuts ls x t)∧Below w.heap.size w wq∧w8.heap.size≤wq.heap.size:=
                ⟨_,rfl,((B8.set 0 _).set 1 _).set 2 _,(by repeat (first|(with_reducible first|exact x8|refine IntsAt.alloc ?_ _|refine IntsAt.drewN ?_ _|refine IntsAt.drew ?_|(refine IntsAt.set ?_ ?_ _;rotate_left 1;(intro h0;have hq0:=l8 h0;first|(dsimp only;omega)|omega|(simp;omega)|simp)))|exact x8)),(((hown.keep hbB).set hne (fun h=>h rfl) _).set hne (fun h=>h rfl) _).set hne (fun h=>h rfl) _,(Below.y0 hbw8),by simp [World.setCell]⟩
              have B9:=B9
              have B9c:=B9.cell
              have B9f:=B9.thawed
              have B9z:=B9.lt
              have B9k:=lt_add B9z
              clear B8 B8c B8f B8z BX BXc BXf BXz BXk d0 d1 d2 d3 d4 d5 d6 M7 x4 x5 xc hi2 hi3
              go_wp2_with (at_builtin;refine wpList_push rfl (.tmp 40) (.tmp 42) 87 rfl Form.mat w1.heap.size (fun b=>b≠w.heap.size) 41 i0 (.agg #[.int .i64 0,.int .i64 0,.slice none 0 0]) 40 Tryz.underlying87 hi hz0 hz1 hz2 rfl (by decide) (.slice av (t+1) cv) (netOuts ls x t) rfl (hownq.keep ((Below.refl wq.heap.size wq).alloc (Nat.le_refl _) _)) wq.heap.size 1 [.int .i64 (netTo ls x (t+1)).rows,.int .i64 (netTo ls x (t+1)).cols,.slice a8 n8 k8] 41 (netTo ls x (t+1)) rfl (Box.new _ _ _) ⟨a8,n8,k8,b8,o8,rfl,fun h=>⟨by have:=l8 h;omega,fun e=>by have:=(hrow8 _ e).2;have:=l8 h;omega⟩,x9.alloc _⟩ (by rw [HL.out];omega) (by rw [HL.out];unfold maxLen;omega) (by simp;omega) _ rfl ?_)
              intro g cap w' hown' hgrow hgv hgl
              have hbn:Below w.heap.size w w':=Below.grown (Below.al hbq _) hgrow (by simp;omega) (fun q hq=>by have:=(hrow8 q hq).1;omega)
              have B10:=(B9.alloc (.cells #[.int .i64 (netTo ls x (t+1)).rows,.int .i64 (netTo ls x (t+1)).cols,.slice a8 n8 k8] 41)).grown hgrow (fun e=>hne e.symm)
              have x10:=(x9.alloc (.cells #[.int .i64 (netTo ls x (t+1)).rows,.int .i64 (netTo ls x (t+1)).cols,.slice a8 n8 k8] 41)).grown hgrow (fun h e=>by have:=(hrow8 _ e.symm).2;have:=l8 h;omega)
              have hzn:w1.heap.size≤w'.heap.size:=by have:=hgrow.size;simp at this;omega
              go_wp2
              go_roundw
              case rel=>exact ⟨t+1,by omega,by go_num,by rw [goTo_succ HG.out];exact HFF.out,by rw [netOuts_succ];exact hown',hbn,hzn,a8,n8,k8,b8,o8,B10,x10,fun h=>by have:=l8 h;omega⟩
              case measure=>simp [intOf];omega)
          · have HFF:=Lib.hid hff
            have q1:((lx ls t).goFault (netTo ls x t) != 0)=true:=by simp [hff]
            have hs:goTo ls x (t+1)=(lx ls t).goFault (netTo ls x t):=goTo_succ HG.out
            have HST:Hid (goTo ls x n=(lx ls t).goFault (netTo ls x t)):=Lib.hid (by rw [goTo_stop (show t+1≤n by omega) (by rw [hs];exact hff),hs])
            clear hff hs
            go_wp2_with fail
            go_region_held3 (fun w'=>w'.cell? ⟨b,o+t*7,none⟩=some (.int .i64 (lx ls t).kind)∧w'.cell? ⟨b,o+t*7+1,none⟩=some (.int .i64 (lx ls t).W.rows)∧w'.cell? ⟨b,o+t*7+2,none⟩=some (.int .i64 (lx ls t).W.cols)∧w'.cell? ⟨b,o+t*7+3,none⟩=some (.slice a4 n4 k4)∧w'.cell? ⟨b,o+t*7+4,none⟩=some (.int .i64 (lx ls t).B.rows)∧w'.cell? ⟨b,o+t*7+5,none⟩=some (.int .i64 (lx ls t).B.cols)∧w'.cell? ⟨b,o+t*7+6,none⟩=some (.slice a5 n5 k5)∧w'.cell? ⟨w.heap.size,0,none⟩=some (.int .i64 (netTo ls x t).rows)∧w'.cell? ⟨w.heap.size,1,none⟩=some (.int .i64 (netTo ls x t).cols)∧w'.cell? ⟨w.heap.size,2,none⟩=some (.slice ac nc kc)) (exact cells7b (t:=41) (by repeat (first|(with_reducible first|exact M7|refine Cells7.alloc ?_ _|refine Cells7.drewN ?_ _|refine Cells7.drew ?_|(refine Cells7.far ?_ ?_ _;rotate_left 1;(first|(dsimp only;omega)|omega|(simp;omega)|simp))|refine Cells7.keep ?_ hb7)|exact M7)) (by first|exact BX.k1 hb7|exact BX.k)) ((go_at_call 72;go_must (refine (refGoFault_any (lx ls t) (netTo ls x t) _ _ _ ⟨_,_,_,_,_,_,_,_,_,_,rfl,(show IntsAt _ a4 n4 k4 b4 o4 (lx ls t).W.cells from x4.k),(show IntsAt _ a5 n5 k5 b5 o5 (lx ls t).B.cells from x5.k)⟩ (MatAt.mk (show IntsAt _ ac nc kc bc oc (netTo ls x t).cells from xc.k))).mono ?_);go_must (rintro e w7 ⟨rfl,hb7⟩)))
            have hbe:Below w.heap.size w w7:=(Below.y1 hb7 hbr)
            go_wp2
            refine bodyPost_ret (v:=.tuple #[.slice none 0 0,.int .i64 ((lx ls t).goFault (netTo ls x t))]) (by simp [results,Tryz.results44,go_sem]) rfl ⟨.slice none 0 0,?_,hbe,?_,?_⟩
            · rw [HST.out]
            · exact fun h=>absurd h (by rw [HST.out];exact HFF.out)
            · exact fun _=>rfl
        · obtain rfl:t=n:=by omega
          obtain ⟨av',cv',b',hv,hb',hrow⟩:=hown.row (G:=anyB) (fun b h _=>trivial) (fun b h=>trivial)
          rw [netOuts_length] at hv hb' hrow
          have HR:=Lib.hid (show ∃ a' k' b',Value.slice av (t+1) cv=.slice a' (t+1) k'∧RowAt Form.mat wr anyB a' (t+1) k' b' 0 (netOuts ls x t) from ⟨_,_,_,hv,hrow⟩)
          clear hv hown hrow BX BXc BXf BXz BXk xc
          go_wp2
          refine bodyPost_ret (v:=.tuple #[.slice av (t+1) cv,.int .i64 0]) (by simp [results,Tryz.results44,go_sem]) rfl ⟨.slice av (t+1) cv,?_,hbr,?_,?_⟩
          · rw [HG.out]
          · exact fun _=>HR.out
          · exact fun h=>absurd HG.out h
    · have hq:netGoFault ls x=x.fault:=by unfold netGoFault;rw [if_neg (by omega),if_pos hf]
      have HF:=Lib.hid hf
      have q1:(x.fault != 0)=true:=by simp [hf]
      rw [hq]
      clear hf hq
      go_enter Tryz.func44,Tryz.ntmps44
      go_wp2_with fail
      refine (refMatFault_any x _ _ (MatAt.mk (x0.alloc _))).mono ?_
      rintro e w1 ⟨rfl,hb1⟩
      go_wp2
      refine bodyPost_ret (v:=.tuple #[.slice none 0 0,.int .i64 x.fault]) (by simp [results,Tryz.results44,go_sem]) rfl ⟨.slice none 0 0,?_,(Below.x1 hb1),?_,?_⟩
      · rfl
      · exact fun h=>absurd h HF.out
      · exact fun _=>rfl
end
end Go.Proofs.YtchngeagnlngaaaGreatDoor
end
section
namespace Gal
section
variable {ls:List Lay} {ss:List Mat} {g:Mat} {k:Nat}
theorem lx_take {j m:Nat} (h:j<m):lx (ls.take m) j=lx ls j:=by unfold lx;rw [List.getElem?_take,if_pos h]
theorem mx_take {j m:Nat} (h:j<m):mx (ss.take m) j=mx ss j:=by unfold mx;rw [List.getElem?_take,if_pos h]
theorem bM_take:∀ t,t≤k→bM (ls.take k) (ss.take (k+1)) (bM ls ss g (k+1) 1) k t=bM ls ss g (k+1) (t+1)
 | 0,_=>rfl
 | t+1,h=>by
  show (lx (ls.take k) (k - 1 - t)).back (mx (ss.take (k+1)) (k - 1 - t)) (bM (ls.take k) (ss.take (k+1)) (bM ls ss g (k+1) 1) k t)=(lx ls (k+1 - 1 - (t+1))).back (mx ss (k+1 - 1 - (t+1))) (bM ls ss g (k+1) (t+1))
  rw [bM_take t (by omega),lx_take (by omega),mx_take (by omega)]
  have e:k+1 - 1 - (t+1)=k - 1 - t:=by omega
  rw [e]
theorem bF_take (hf:bF ls ss g (k+1) 1=0):∀ t,t≤k→bF (ls.take k) (ss.take (k+1)) (bM ls ss g (k+1) 1) k t=bF ls ss g (k+1) (t+1)
 | 0,_=>hf.symm
 | t+1,h=>by
  show (if bF (ls.take k) (ss.take (k+1)) (bM ls ss g (k+1) 1) k t=0 then (lx (ls.take k) (k - 1 - t)).backFault (mx (ss.take (k+1)) (k - 1 - t)) (bM (ls.take k) (ss.take (k+1)) (bM ls ss g (k+1) 1) k t) else bF (ls.take k) (ss.take (k+1)) (bM ls ss g (k+1) 1) k t) =
   (if bF ls ss g (k+1) (t+1)=0 then (lx ls (k+1 - 1 - (t+1))).backFault (mx ss (k+1 - 1 - (t+1))) (bM ls ss g (k+1) (t+1)) else bF ls ss g (k+1) (t+1))
  rw [bF_take hf t (by omega),bM_take t (by omega),lx_take (by omega),mx_take (by omega)]
  have e:k+1 - 1 - (t+1)=k - 1 - t:=by omega
  rw [e]
theorem bD_take {t:Nat} (h:t<k):bD (ls.take k) (ss.take (k+1)) (bM ls ss g (k+1) 1) k t=bD ls ss g (k+1) (t+1):=by
 unfold bD
 rw [bM_take t (by omega),lx_take (by omega),mx_take (by omega)]
 have e:k+1 - 1 - (t+1)=k - 1 - t:=by omega
 rw [e]
theorem bDs_take:bDs ls ss g (k+1)=bDs (ls.take k) (ss.take (k+1)) (bM ls ss g (k+1) 1) k++[bD ls ss g (k+1) 0]:=by
 unfold bDs
 rw [List.range_succ,List.map_append]
 congr 1
 ·refine List.map_congr_left fun j hj=>?_
  have hj':=List.mem_range.1 hj
  rw [bD_take (by omega)]
  congr 1
  omega
 ·simp
theorem bF_one:bF ls ss g (k+1) 1=(lx ls k).backFault (mx ss k) g:=bF_next rfl
theorem bM_one:bM ls ss g (k+1) 1=(lx ls k).back (mx ss k) g:=rfl
end
end Gal
end
section
namespace Go.Proofs.YtchngeagnlngaaaGreatDoor
open Go.RowKit Gal
set_option maxRecDepth 100000
set_option maxHeartbeats 4000000
theorem refBackOf_1 (W B x g:Mat)
  (a a' a2 a3:Option Addr) (n n' n2 n3 k k' k2 k3 b b' b2 b3 o o' o2 o3:Nat) (w:World) (x0:IntsAt w a n k b o W.cells) (x1:IntsAt w a' n' k' b' o' B.cells) (x2:IntsAt w a2 n2 k2 b2 o2 x.cells) (x3:IntsAt w a3 n3 k3 b3 o3 g.cells)
  (hg:Backs ⟨1,W,B⟩ x g) :
  Calls Tryz.prog 77 #[.agg #[.int .i64 1,.int .i64 W.rows,.int .i64 W.cols,.slice a n k,.int .i64 B.rows,.int .i64 B.cols,.slice a' n' k'],.agg #[.int .i64 x.rows,.int .i64 x.cols,.slice a2 n2 k2],.agg #[.int .i64 g.rows,.int .i64 g.cols,.slice a3 n3 k3]] w fun e w'=>
   ∃ v d,e=.returned (.tuple #[v,d])∧MatNew w.heap.size w' v (Lay.back ⟨1,W,B⟩ x g)∧GrdNew w.heap.size w' d (Lay.grad ⟨1,W,B⟩ x g)∧Below w.heap.size w w'
 := by
 have hbk:Lay.back ⟨1,W,B⟩ x g=matMul g (matTurn W):=by simp [Lay.back]
 have hgr:Lay.grad ⟨1,W,B⟩ x g=⟨matMul (matTurn x) g,matSums g⟩:=by simp [Lay.grad]
 obtain ⟨_,_,fw,fb,ft⟩:=Lay.fault_ok hg.goes.lay
 have hW12:W.rows≤12:=by unfold Lay.fits at ft;dsimp only at ft;omega
 have hx12:x.rows≤12:=hg.small rfl
 have hc:g.cols=W.cols:=by rw [hg.cols];exact if_pos rfl
 have HTW:=Lib.hid fw
 have HTX:=Lib.hid hg.goes.mat
 have HM1:Hid (mulFault g (matTurn W)=0):=Lib.hid (mulFault_zero hg.mat (turn_fault' fw hW12) hc)
 have HM2:Hid (mulFault (matTurn x) g=0):=Lib.hid (mulFault_zero (turn_fault' hg.goes.mat hx12) hg.mat hg.rows.symm)
 have HF:=Lib.hid hg.mat
 rw [hbk,hgr]
 clear hbk hgr fw fb ft hW12 hx12 hc hg
 have l0:0<n→b<w.heap.size:=x0.lt
 have l2:0<n2→b2<w.heap.size:=x2.lt
 have l3:0<n3→b3<w.heap.size:=x3.lt
 go_enter Tryz.func77,Tryz.ntmps77
 go_wp2_with fail
 refine (refMatTurn_all W _ _ (MatAt.mk (x0.alloc _ |>.alloc _ |>.alloc _ |>.alloc _ |>.alloc _ |>.alloc _)) HTW.out).mono ?_
 rintro e w1 ⟨v1,rfl,⟨c1,m1,p1,q1,r1,rfl,hn1,y1⟩,hb1⟩
 have B0:=((show Box _ w.heap.size [.int .i64 1,.int .i64 W.rows,.int .i64 W.cols,.slice a n k,.int .i64 B.rows,.int .i64 B.cols,.slice a' n' k'] 84 from Box.x0)).keep hb1
 have B0c:=B0.cell
 have B0f:=B0.thawed
 have B0z:=B0.lt
 have B0k:=lt_add B0z
 have B1:=((show Box _ (w.heap.size+1) [.int .i64 x.rows,.int .i64 x.cols,.slice a2 n2 k2] 41 from Box.x0)).keep hb1
 have B1c:=B1.cell
 have B1f:=B1.thawed
 have B1z:=B1.lt
 have B1k:=lt_add B1z
 have B2:=((show Box _ (w.heap.size+1+1) [.int .i64 g.rows,.int .i64 g.cols,.slice a3 n3 k3] 41 from Box.x0)).keep hb1
 have B2c:=B2.cell
 have B2f:=B2.thawed
 have B2z:=B2.lt
 have B2k:=lt_add B2z
 have B3:=((show Box _ (w.heap.size+1+1+1) [.int .i64 0,.int .i64 0,.slice none 0 0] 41 from Box.x0)).keep hb1
 have B3c:=B3.cell
 have B3f:=B3.thawed
 have B3z:=B3.lt
 have B3k:=lt_add B3z
 have B4:=((show Box _ (w.heap.size+1+1+1+1) [.int .i64 0,.int .i64 0,.slice none 0 0,.int .i64 0,.int .i64 0,.slice none 0 0] 86 from Box.x0)).keep hb1
 have B4c:=B4.cell
 have B4f:=B4.thawed
 have B4z:=B4.lt
 have B4k:=lt_add B4z
 have B5:=((show Box _ (w.heap.size+1+1+1+1+1) [.int .i64 0,.int .i64 0,.slice none 0 0,.int .i64 0,.int .i64 0,.slice none 0 0] 86 from Box.x0)).keep hb1
 have B5c:=B5.cell
 have B5f:=B5.thawed
 have B5z:=B5.lt
 have B5k:=lt_add B5z
 have hkw1:Below w.heap.size w w1:=(Below.x1 hb1)
 replace x2:=x2.keep hkw1
 replace x3:=x3.keep hkw1
 have hsw1:=hkw1.size
 have hz1:w.heap.size+1+1+1+1+1<w1.heap.size:=B5z
 go_wp2_with fail
 refine (refMatTurn_all x _ _ (MatAt.mk (x2.alloc _)) HTX.out).mono ?_
 rintro e w2 ⟨v2,rfl,⟨c2,m2,p2,q2,r2,rfl,hn2,y2⟩,hb2⟩
 have Q1:=(Box.new w1 [.int .i64 (matTurn W).rows,.int .i64 (matTurn W).cols,.slice c1 m1 p1] 41).keep hb2
 have Q1c:=Q1.cell
 have Q1f:=Q1.thawed
 have Q1z:=Q1.lt
 have Q1k:=lt_add Q1z
 have hkw2:Below w1.heap.size w1 w2:=(Below.x1 hb2)
 replace B2:=B2.keep hkw2
 replace B2c:=B2.cell
 replace B2f:=B2.thawed
 replace B2z:=B2.lt
 replace B2k:=lt_add B2z
 replace B3:=B3.keep hkw2
 replace B3c:=B3.cell
 replace B3f:=B3.thawed
 replace B3z:=B3.lt
 replace B3k:=lt_add B3z
 replace B4:=B4.keep hkw2
 replace B4c:=B4.cell
 replace B4f:=B4.thawed
 replace B4z:=B4.lt
 replace B4k:=lt_add B4z
 replace B5:=B5.keep hkw2
 replace B5c:=B5.cell
 replace B5f:=B5.thawed
 replace B5z:=B5.lt
 replace B5k:=lt_add B5z
 replace x3:=x3.keep hkw2
 replace y1:=y1.keep hkw2
 have hsw2:=hkw2.size
 go_wp2_with fail
 refine (refMatMul_all (matTurn x) g _ _ _ (MatAt.mk (y2.alloc _)) (MatAt.mk (x3.alloc _)) HM2.out).mono ?_
 rintro e w3 ⟨v3,rfl,⟨c3,m3,p3,q3,r3,rfl,hn3,y3⟩,hb3⟩
 have hkw3:Below w2.heap.size w2 w3:=(Below.x1 hb3)
 replace B2:=B2.keep hkw3
 replace B2c:=B2.cell
 replace B2f:=B2.thawed
 replace B2z:=B2.lt
 replace B2k:=lt_add B2z
 replace B3:=B3.keep hkw3
 replace B3c:=B3.cell
 replace B3f:=B3.thawed
 replace B3z:=B3.lt
 replace B3k:=lt_add B3z
 replace B4:=B4.keep hkw3
 replace B4c:=B4.cell
 replace B4f:=B4.thawed
 replace B4z:=B4.lt
 replace B4k:=lt_add B4z
 replace B5:=B5.keep hkw3
 replace B5c:=B5.cell
 replace B5f:=B5.thawed
 replace B5z:=B5.lt
 replace B5k:=lt_add B5z
 replace Q1:=Q1.keep hkw3
 replace Q1c:=Q1.cell
 replace Q1f:=Q1.thawed
 replace Q1z:=Q1.lt
 replace Q1k:=lt_add Q1z
 replace x3:=x3.keep hkw3
 replace y1:=y1.keep hkw3
 have hsw3:=hkw3.size
 have e1:0<m1→w.heap.size+1+1+1+1+1<q1:=fun h=>by have:=hn1 h;simp at this;omega
 have e3:0<m3→w.heap.size+1+1+1+1+1<q3:=fun h=>by have:=hn3 h;simp at this;omega
 go_wp2_with fail
 refine (refMatSums_all g _ _ (MatAt.mk (show IntsAt _ a3 n3 k3 b3 o3 g.cells from (by repeat (first|(with_reducible first|exact x3|refine IntsAt.alloc ?_ _|refine IntsAt.drewN ?_ _|refine IntsAt.drew ?_|(refine IntsAt.set ?_ ?_ _;rotate_left 1;(intro h0;have hq0:=l3 h0;first|(dsimp only;omega)|omega|(simp;omega)|simp)))|exact x3)))) HF.out).mono ?_
 rintro e w4 ⟨v4,rfl,⟨c4,m4,p4,q4,r4,rfl,hn4,y4⟩,hb4⟩
 have hfr:Far (·=w.heap.size+1+1+1+1+1) w3 w4:=((((Far.refl (·=w.heap.size+1+1+1+1+1) w3).st (a:=⟨w.heap.size+1+1+1+1+1,0,none⟩) (fun _=>rfl) _).st (a:=⟨w.heap.size+1+1+1+1+1,1,none⟩) (fun _=>rfl) _).st (a:=⟨w.heap.size+1+1+1+1+1,2,none⟩) (fun _=>rfl) _).go hb4
 have D5:Box w4 (w.heap.size+1+1+1+1+1) [.int .i64 (matMul (matTurn x) g).rows,.int .i64 (matMul (matTurn x) g).cols,.slice c3 m3 p3,.int .i64 0,.int .i64 0,.slice none 0 0] 86:=(((B5.set 0 _).set 1 _).set 2 _).keep hb4
 have D5c:=D5.cell
 have D5f:=D5.thawed
 have D5z:=D5.lt
 clear B5 B5c B5f B5z B5k
 replace B2:=B2.farS hfr (by omega)
 have B2c:=B2.cell
 have B2f:=B2.thawed
 have B2z:=B2.lt
 have B2k:=lt_add B2z
 replace B3:=B3.farS hfr (by omega)
 have B3c:=B3.cell
 have B3f:=B3.thawed
 have B3z:=B3.lt
 have B3k:=lt_add B3z
 replace B4:=B4.farS hfr (by omega)
 have B4c:=B4.cell
 have B4f:=B4.thawed
 have B4z:=B4.lt
 have B4k:=lt_add B4z
 replace Q1:=Q1.farS hfr (by omega)
 have Q1c:=Q1.cell
 have Q1f:=Q1.thawed
 have Q1z:=Q1.lt
 have Q1k:=lt_add Q1z
 replace x3:=x3.farS hfr (by intro h e;have:=l3 h;omega)
 replace y1:=y1.farS hfr (by intro h e;have:=e1 h;omega)
 replace y3:=y3.farS hfr (by intro h e;have:=e3 h;omega)
 have hs4:=hfr.size
 clear hfr
 go_wp2_with fail
 refine (refMatMul_all g (matTurn W) _ _ _ (MatAt.mk (show IntsAt _ a3 n3 k3 b3 o3 g.cells from (by repeat (first|(with_reducible first|exact x3|refine IntsAt.alloc ?_ _|refine IntsAt.drewN ?_ _|refine IntsAt.drew ?_|(refine IntsAt.set ?_ ?_ _;rotate_left 1;(intro h0;have hq0:=l3 h0;first|(dsimp only;omega)|omega|(simp;omega)|simp)))|exact x3)))) (MatAt.mk (show IntsAt _ c1 m1 p1 q1 r1 (matTurn W).cells from (by repeat (first|(with_reducible first|exact y1|refine IntsAt.alloc ?_ _|refine IntsAt.drewN ?_ _|refine IntsAt.drew ?_|(refine IntsAt.set ?_ ?_ _;rotate_left 1;(intro h0;have hq0:=e1 h0;first|(dsimp only;omega)|omega|(simp;omega)|simp)))|exact y1)))) HM1.out).mono ?_
 rintro e w5 ⟨v5,rfl,⟨c5,m5,p5,q5,r5,rfl,hn5,y5⟩,hb5⟩
 have hfr:Far (·=w.heap.size+1+1+1+1+1) w4 w5:=((((Far.refl (·=w.heap.size+1+1+1+1+1) w4).st (a:=⟨w.heap.size+1+1+1+1+1,3,none⟩) (fun _=>rfl) _).st (a:=⟨w.heap.size+1+1+1+1+1,4,none⟩) (fun _=>rfl) _).st (a:=⟨w.heap.size+1+1+1+1+1,5,none⟩) (fun _=>rfl) _).go hb5
 have e4:0<m4→w.heap.size+1+1+1+1+1<q4:=fun h=>by have:=hn4 h;simp [World.setCell] at this;omega
 have e5:0<m5→w.heap.size+1+1+1+1+1<q5:=fun h=>by have:=hn5 h;simp [World.setCell] at this;omega
 have E5:Box w5 (w.heap.size+1+1+1+1+1) [.int .i64 (matMul (matTurn x) g).rows,.int .i64 (matMul (matTurn x) g).cols,.slice c3 m3 p3,.int .i64 (matSums g).rows,.int .i64 (matSums g).cols,.slice c4 m4 p4] 86:=(((D5.set 3 _).set 4 _).set 5 _).keep hb5
 clear D5 D5c D5f D5z
 replace B3:=B3.farS hfr (by omega)
 have B3c:=B3.cell
 have B3f:=B3.thawed
 have B3z:=B3.lt
 have B3k:=lt_add B3z
 replace B4:=B4.farS hfr (by omega)
 have B4c:=B4.cell
 have B4f:=B4.thawed
 have B4z:=B4.lt
 have B4k:=lt_add B4z
 replace y3:=y3.farS hfr (by intro h e;have:=e3 h;omega)
 replace y4:=y4.farS hfr (by intro h e;have:=e4 h;omega)
 have hs5:=hfr.size
 clear hfr
 go_wp2_with fail
 have Q5:Box (w5.alloc (.cells #[.int .i64 (matMul g (matTurn W)).rows,.int .i64 (matMul g (matTurn W)).cols,.slice c5 m5 p5] 41)) w5.heap.size [.int .i64 (matMul g (matTurn W)).rows,.int .i64 (matMul g (matTurn W)).cols,.slice c5 m5 p5] 41:=Box.new _ _ _
 have hz5:w.heap.size+1+1+1+1+1<w5.heap.size:=by omega
 go_region_held3 (fun w'=>w'.cell? ⟨w5.heap.size,0,none⟩=some (.int .i64 (matMul g (matTurn W)).rows)∧w'.cell? ⟨w5.heap.size,1,none⟩=some (.int .i64 (matMul g (matTurn W)).cols)∧w'.cell? ⟨w5.heap.size,2,none⟩=some (.slice c5 m5 p5)∧w'.cell? ⟨w.heap.size+1+1+1+1+1,0,none⟩=some (.int .i64 (matMul (matTurn x) g).rows)∧w'.cell? ⟨w.heap.size+1+1+1+1+1,1,none⟩=some (.int .i64 (matMul (matTurn x) g).cols)∧w'.cell? ⟨w.heap.size+1+1+1+1+1,2,none⟩=some (.slice c3 m3 p3)∧w'.cell? ⟨w.heap.size+1+1+1+1+1,3,none⟩=some (.int .i64 (matSums g).rows)∧w'.cell? ⟨w.heap.size+1+1+1+1+1,4,none⟩=some (.int .i64 (matSums g).cols)∧w'.cell? ⟨w.heap.size+1+1+1+1+1,5,none⟩=some (.slice c4 m4 p4)) (exact cells36 (t:=41) (u:=86) (by repeat (first|(with_reducible first|exact Q5|exact (Box.new' _ (w5.heap.size) _ _ (by simp [World.setCell]))|refine Box.alloc ?_ _|refine Box.drewN ?_ _|refine Box.drew ?_|refine Box.fx ?_ _)|exact Q5)) E5.k) (fail)
 all_goals (
  go_wp2
  refine bodyPost_ret (v:=.tuple #[.agg #[.int .i64 (matMul g (matTurn W)).rows,.int .i64 (matMul g (matTurn W)).cols,.slice c5 m5 p5],.agg #[.int .i64 (matMul (matTurn x) g).rows,.int .i64 (matMul (matTurn x) g).cols,.slice c3 m3 p3,.int .i64 (matSums g).rows,.int .i64 (matSums g).cols,.slice c4 m4 p4]]) ?_ rfl ⟨_,_,rfl,?_,?_,?_⟩
  ·simp [results,Tryz.results77,go_sem,B3c,B4c,B3z,B4z]
  ·exact MatNew.mk (b:=q5) (off:=r5) (fun h=>by have:=e5 h;omega) (by repeat (first|(with_reducible first|exact y5|refine IntsAt.alloc ?_ _|refine IntsAt.drewN ?_ _|refine IntsAt.drew ?_|(refine IntsAt.set ?_ ?_ _;rotate_left 1;(intro h0;have hq0:=e5 h0;first|(dsimp only;omega)|omega|(simp;omega)|simp)))|exact y5))
  ·exact ⟨c3,m3,p3,q3,r3,c4,m4,p4,q4,r4,rfl,fun h=>by have:=e3 h;omega,(by repeat (first|(with_reducible first|exact y3|refine IntsAt.alloc ?_ _|refine IntsAt.drewN ?_ _|refine IntsAt.drew ?_|(refine IntsAt.set ?_ ?_ _;rotate_left 1;(intro h0;have hq0:=e3 h0;first|(dsimp only;omega)|omega|(simp;omega)|simp)))|exact y3)),fun h=>by have:=e4 h;omega,(by repeat (first|(with_reducible first|exact y4|refine IntsAt.alloc ?_ _|refine IntsAt.drewN ?_ _|refine IntsAt.drew ?_|(refine IntsAt.set ?_ ?_ _;rotate_left 1;(intro h0;have hq0:=e4 h0;first|(dsimp only;omega)|omega|(simp;omega)|simp)))|exact y4))⟩
  ·exact (by repeat (first|(with_reducible first|exact Below.refl _ _|refine Below.al ?_ _|refine Below.drN ?_ _|refine Below.drew ?_|refine Below.sx ?_ _|refine Below.go ?_ hb5|refine Below.go ?_ hb4|refine Below.go ?_ hb3|refine Below.go ?_ hb2|refine Below.go ?_ hb1)|exact Below.refl _ _)))
end Go.Proofs.YtchngeagnlngaaaGreatDoor
end
