/- Texts joined: Drill2, PWire, PWire2. -/
import Derived.Test.YtchngeagnlngaaaGreatDoorJ04
import Derived.Test.YtchngeagnlngaaaGreatDoorJ09
import Derived.Test.YtchngeagnlngaaaGreatDoorJ33
import Derived.Test.YtchngeagnlngaaaGreatDoorJ34
import Derived.WalkKit
import Derived.Test.YtchngeagnlngaaaGreatDoorJ03
import Derived.Laws.BitsAllLaws
import Derived.Test.YtchngeagnlngaaaGreatDoorJ01
set_option linter.unusedVariables false
set_option linter.unusedSimpArgs false
set_option linter.unusedSectionVars false
section
set_option maxRecDepth 100000
namespace Go.Proofs.YtchngeagnlngaaaGreatDoor
open Go.RowKit Gal Go.Maps
def kfI (x:Int):Value:=.int .i64 x
theorem kfI_inj {x y:Int} (h:kfI x=kfI y):x=y:=by
 unfold kfI at h
 injection h with _ h
theorem int_keysD:Keyed Tryz.prog 3:=int_keyed Tryz.underlying3
theorem kfI_of {x:Int} (h:-9223372036854775808≤x∧x≤9223372036854775807):keyOf Tryz.prog 3 (kfI x)=some (.int .i64 x):=keyOf_int_mk Tryz.underlying3 (by
 have e1:IntKind.i64.min = -9223372036854775808:=rfl
 have e2:IntKind.i64.max=9223372036854775807:=rfl
 simp only [Lit.wf,Bool.and_eq_true,decide_eq_true_eq]
 omega)
theorem zero_unit (w:World):(zeroValue 53).run Tryz.prog w=.ok (.agg #[]) w:=by kernel_rfl
def setOf (Fs:List Int):List (Int × Value):=Fs.map fun f=>(f,Value.agg #[])
theorem setOf_vals {Fs:List Int}:∀ p ∈ setOf Fs,p.2=Value.agg #[]:=fun p hp=>by
 obtain ⟨f,_,rfl⟩:=List.mem_map.1 hp
 rfl
theorem setOf_has {Fs:List Int} {t:Nat}:fellAt Fs t=true ↔ ∃ p ∈ setOf Fs,p.1=(t:Int):=by
 rw [fellAt_true]
 constructor
 ·intro h
  exact ⟨_,List.mem_map.2 ⟨_,h,rfl⟩,rfl⟩
 ·rintro ⟨p,hp,h⟩
  obtain ⟨f,hf,rfl⟩:=List.mem_map.1 hp
  rw [← h]
  exact hf
structure CourseAt (w:World) (cb mb:Nat) (al:Option Addr) (L kl:Nat) (p ln kp:Int) (tries:Int) (Fs:List Int):Prop where
 box:Box w cb [.slice al L kl,.int .i64 p,.int .i64 ln,.int .i64 kp,.map (some mb),.int .i64 tries] 52
 map:MapV Tryz.prog 3 kfI w mb (setOf Fs)
variable {w:World} {cb mb:Nat} {al:Option Addr} {L kl:Nat} {p ln kp tries:Int} {Fs:List Int}
theorem CourseAt.ne (h:CourseAt w cb mb al L kl p ln kp tries Fs):cb≠mb:=fun e=>by
 obtain ⟨es,c,hb,_⟩:=h.map
 have h1:=h.box
 unfold Box at h1
 rw [e,hb] at h1
 cases h1
theorem CourseAt.keep {w':World} (h:CourseAt w cb mb al L kl p ln kp tries Fs) (hb:Below w.heap.size w w'):CourseAt w' cb mb al L kl p ln kp tries Fs:=⟨h.box.keep hb,h.map.keep hb⟩
theorem CourseAt.drew (h:CourseAt w cb mb al L kl p ln kp tries Fs):CourseAt w.drew cb mb al L kl p ln kp tries Fs:=⟨h.box.drew,h.map.drew⟩
theorem CourseAt.drewN (h:CourseAt w cb mb al L kl p ln kp tries Fs) (q:Nat):CourseAt (w.drewN q) cb mb al L kl p ln kp tries Fs:=⟨h.box.drewN q,h.map.drewN q⟩
theorem CourseAt.alloc (h:CourseAt w cb mb al L kl p ln kp tries Fs) (o:Obj):CourseAt (w.alloc o) cb mb al L kl p ln kp tries Fs:=⟨h.box.alloc o,h.map.alloc o⟩
theorem CourseAt.far (h:CourseAt w cb mb al L kl p ln kp tries Fs) {a:Addr} (h1:cb≠a.block) (h2:mb≠a.block) (v:Value):CourseAt (w.setCell a v) cb mb al L kl p ln kp tries Fs:=⟨h.box.far h1 v,h.map.far h2 v⟩
theorem CourseAt.tick (h:CourseAt w cb mb al L kl p ln kp tries Fs) (t:Int):CourseAt (w.setCell ⟨cb,5,none⟩ (.int .i64 t)) cb mb al L kl p ln kp t Fs:=⟨h.box.set 5 (.int .i64 t),h.map.far h.ne.symm _⟩
theorem CourseAt.has (h:CourseAt w cb mb al L kl p ln kp tries Fs) {t:Nat} (ht:t≤1000000):(Instr.lookup 50 (.map (some mb)) (.int .i64 (t:Int)) true).run Tryz.prog w=.ok (.tuple #[.agg #[],.bool (fellAt Fs t)]) w:=
 MapV.there int_keysD Tryz.underlying50 kfI_inj zero_unit setOf_vals h.map (kfI_of (x:=(t:Int)) (by omega)) setOf_has
def isB (b x:Nat):Prop:=x=b
set_option maxHeartbeats 4000000
theorem try_fell (a0 a1:Option Addr) (n n1 k0 k1:Nat) (z k:Int) (t:Nat) (h:CourseAt w cb mb al L kl p ln kp (t:Int) Fs) (ht:t≤900000) (hf:fellAt Fs (t+1)=true) :
  Calls Tryz.prog 14 #[.pointer (some ⟨cb,0,none⟩),.agg #[.slice a0 n k0,.slice a1 n1 k1,.int .i64 z],.int .i64 k] w fun e w'=>e=.returned (.tuple #[.agg #[.slice none 0 0,.slice none 0 0,.int .i64 0],.iface 61 (.agg #[.int .i64 ((t+1:Nat):Int)])]) ∧
   CourseAt w' cb mb al L kl p ln kp ((t+1:Nat):Int) Fs∧Far (isB cb) w w':=by
 have hcl:=h.box.lt
 have hml:=h.map.lt
 have CB:=(h.alloc (.cells #[.slice a0 n k0,.slice a1 n1 k1,.int .i64 z] 30)).alloc (.cells #[.slice none 0 0,.slice none 0 0,.int .i64 0] 30)
 have c5:=CB.box.cell 5
 have f5:=CB.box.thawed 5
 obtain ⟨W3,hW3,CB3,R3,F3⟩:∃ W3,(((w.alloc (.cells #[.slice a0 n k0,.slice a1 n1 k1,.int .i64 z] 30)).alloc (.cells #[.slice none 0 0,.slice none 0 0,.int .i64 0] 30)).setCell ⟨cb,5,none⟩ (.int .i64 ((t:Int)+1)))=W3∧CourseAt W3 cb mb al L kl p ln kp ((t+1:Nat):Int) Fs ∧
   Box W3 (w.heap.size+1) [.slice none 0 0,.slice none 0 0,.int .i64 0] 30∧Far (isB cb) w W3:=
  ⟨_,rfl,by have:=CB.tick ((t+1:Nat):Int);rwa [show ((t+1:Nat):Int)=(t:Int)+1 by omega] at this ⊢,
   (Box.new' (w.alloc (.cells #[.slice a0 n k0,.slice a1 n1 k1,.int .i64 z] 30)) (w.heap.size+1) [.slice none 0 0,.slice none 0 0,.int .i64 0] 30 (by simp)).far (by dsimp only;omega) _,
   (((Far.refl (isB cb) w).al _).al _).st (a:=⟨cb,5,none⟩) (fun _=>(rfl:cb=cb)) _⟩
 have hcell4:=CB3.box.cell 4
 have hcell5:=CB3.box.cell 5
 have hlk:=CB3.drew.has (t:=t+1) (by omega)
 have hcell4a:=fun ob=>(CB3.alloc ob).box.cell 4
 have hcell5a:=fun ob=>(CB3.alloc ob).box.cell 5
 have hlka:=fun ob=>(CB3.alloc ob).drew.has (t:=t+1) (by omega)
 have e1:((t+1:Nat):Int)=(t:Int)+1:=by omega
 simp only [hf,e1] at hlk hlka hcell5 hcell5a
 have HR3:=Lib.hid (And.intro R3 (And.intro CB3 F3))
 clear R3 F3 CB CB3 h hf
 go_enter Tryz.func14,Tryz.ntmps14
 go_wp2
 go_region
 obtain ⟨W4,hW4,CB4,R4,F4⟩:∃ W4,(W3.alloc (.cells #[] 53)).drew=W4∧CourseAt W4 cb mb al L kl p ln kp ((t+1:Nat):Int) Fs∧Box W4 (w.heap.size+1) [.slice none 0 0,.slice none 0 0,.int .i64 0] 30∧Far (isB cb) w W4:=
  ⟨_,rfl,(HR3.out.2.1.alloc _).drew,(HR3.out.1.alloc _).drew,(HR3.out.2.2.al _).drew⟩
 rw [hW4]
 have d5:=CB4.box.cell 5
 rw [e1] at d5
 have r0:=R4.cell 0
 have r1:=R4.cell 1
 have r2:=R4.cell 2
 have q0:=R4.thawed 0
 have q1:=R4.thawed 1
 have q2:=R4.thawed 2
 have R5:=((R4.set 0 (.slice none 0 0)).set 1 (.slice none 0 0)).set 2 (.int .i64 0)
 have z0:=R5.cell 0
 have z1:=R5.cell 1
 have z2:=R5.cell 2
 have HQ:Hid (CourseAt (((W4.setCell ⟨w.heap.size+1,0,none⟩ (.slice none 0 0)).setCell ⟨w.heap.size+1,1,none⟩ (.slice none 0 0)).setCell ⟨w.heap.size+1,2,none⟩ (.int .i64 0)) cb mb al L kl p ln kp ((t+1:Nat):Int) Fs∧Far (isB cb) w (((W4.setCell ⟨w.heap.size+1,0,none⟩ (.slice none 0 0)).setCell ⟨w.heap.size+1,1,none⟩ (.slice none 0 0)).setCell ⟨w.heap.size+1,2,none⟩ (.int .i64 0))):=
  Lib.hid ⟨((CB4.far (by dsimp only;omega) (by dsimp only;omega) _).far (by dsimp only;omega) (by dsimp only;omega) _).far (by dsimp only;omega) (by dsimp only;omega) _,((F4.st (fun h=>by exfalso;dsimp only at h;omega) _).st (fun h=>by exfalso;dsimp only at h;omega) _).st (fun h=>by exfalso;dsimp only at h;omega) _⟩
 clear hcell4 hcell5 hlk hcell4a hcell5a hlka HR3 CB4 R4 F4 R5 hW3 hW4
 go_wp2
 go_region
 go_wp2
 refine bodyPost_ret (v:=.tuple #[.agg #[.slice none 0 0,.slice none 0 0,.int .i64 0],.iface 61 (.agg #[.int .i64 ((t+1:Nat):Int)])]) (by simp [results,Tryz.results14,go_sem,z0,z1,z2,e1]) rfl ⟨rfl,HQ.out.1.drew,HQ.out.2.drew⟩
section
variable {w:World} {p q c j:Nat} {s0 s1 s2 x0 x1 x2 x3 x4 x5 y0 y1 y2 y3 y4 y5:Value} {T U:TypeId}
theorem cells_dr (s:Box w p [s0,s1,s2] T) (m:Cells6 w c j x0 x1 x2 x3 x4 x5) (y:Box w q [y0,y1,y2,y3,y4,y5] U) :
  w.cell? ⟨p,0,none⟩=some s0∧w.cell? ⟨p,1,none⟩=some s1∧w.cell? ⟨p,2,none⟩=some s2∧w.cell? ⟨c,j,none⟩=some x0∧w.cell? ⟨c,j+1,none⟩=some x1∧w.cell? ⟨c,j+2,none⟩=some x2∧w.cell? ⟨c,j+3,none⟩=some x3∧w.cell? ⟨c,j+4,none⟩=some x4∧w.cell? ⟨c,j+5,none⟩=some x5∧w.cell? ⟨q,0,none⟩=some y0∧w.cell? ⟨q,1,none⟩=some y1∧w.cell? ⟨q,2,none⟩=some y2∧w.cell? ⟨q,3,none⟩=some y3:=
 ⟨s.cell 0,s.cell 1,s.cell 2,m.c0,m.c1,m.c2,m.c3,m.c4,m.c5,y.cell 0,y.cell 1,y.cell 2,y.cell 3⟩
end
theorem one_ends {base:Nat} {w':World} {s:Sta} {d:Bat} {p ln kp off:Int} {v:Value} (h:oneFault s d p ln kp=0→off=oneOff s d p∧StaNew base w' v (oneOf s d p ln kp)) (h':oneFault s d p ln kp≠0→off=0∧v=.agg #[.slice none 0 0,.slice none 0 0,.int .i64 0]) :
  ∃ a n k b a1 n1 k1 b1 z,v=.agg #[.slice a n k,.slice a1 n1 k1,.int .i64 z]∧(oneFault s d p ln kp=0→z=(oneOf s d p ln kp).steps∧RowAt Form.lay w' (newB base) a n k b 0 (oneOf s d p ln kp).N∧RowAt Form.grd w' (newB base) a1 n1 k1 b1 0 (oneOf s d p ln kp).V)∧(oneFault s d p ln kp≠0→v=.agg #[.slice none 0 0,.slice none 0 0,.int .i64 0]):=by
 by_cases hf:oneFault s d p ln kp=0
 ·obtain ⟨h1,a,n,k,b,a1,n1,k1,b1,rfl,q0,q1⟩:=h hf
  exact ⟨a,n,k,b,a1,n1,k1,b1,_,rfl,fun _=>⟨rfl,q0,q1⟩,fun h=>absurd hf h⟩
 ·obtain ⟨_,rfl⟩:=h' hf
  exact ⟨none,0,0,0,none,0,0,0,0,rfl,fun h=>absurd h hf,fun _=>rfl⟩
theorem try_went (S:Sta) (l:List Bat) (a0 a1:Option Addr) (n n1 k0 k1 b0 b1 o0 o1 bl ol:Nat) (k t:Nat) (h:CourseAt w cb mb al L kl p ln kp (t:Int) Fs) (ht:t≤900000) (hf:fellAt Fs (t+1)=false)
    (h0:RowAt Form.lay w (fun b=>b≠cb) a0 n k0 b0 o0 S.N) (h1:RowAt Form.grd w (fun b=>b≠cb) a1 n1 k1 b1 o1 S.V) (hl:RowAt Form.bat w (fun b=>b≠cb) al L kl bl ol l) (hk:k<L) :
    Calls Tryz.prog 14 #[.pointer (some ⟨cb,0,none⟩),.agg #[.slice a0 n k0,.slice a1 n1 k1,.int .i64 S.steps],.int .i64 k] w fun e w'=>∃ v,e=.returned (.tuple #[v,errV (oneFault S (bx l k) p ln kp)]) ∧
      CourseAt w' cb mb al L kl p ln kp ((t+1:Nat):Int) Fs∧Far (isB cb) w w'∧(oneFault S (bx l k) p ln kp=0→StaNew w.heap.size w' v (oneOf S (bx l k) p ln kp))∧(oneFault S (bx l k) p ln kp≠0→v=.agg #[.slice none 0 0,.slice none 0 0,.int .i64 0]):=by
  have hcl:=h.box.lt
  have hml:=h.map.lt
  have hll:=hl.len
  have hlm:=hl.max
  unfold maxLen at hlm
  obtain ⟨z,hz⟩:∃ z,S.steps=z:=⟨_,rfl⟩
  have HZ:=Lib.hid hz
  rw [hz]
  clear hz
  obtain ⟨d,hd⟩:∃ d,bx l k=d:=⟨_,rfl⟩
  have HD:=Lib.hid hd
  rw [hd]
  clear hd
  have CB:=(h.alloc (.cells #[.slice a0 n k0,.slice a1 n1 k1,.int .i64 z] 30)).alloc (.cells #[.slice none 0 0,.slice none 0 0,.int .i64 0] 30)
  have c5:=CB.box.cell 5
  have f5:=CB.box.thawed 5
  obtain ⟨W3,hW3,CB3,R3,S3,F3⟩:∃ W3,(((w.alloc (.cells #[.slice a0 n k0,.slice a1 n1 k1,.int .i64 z] 30)).alloc (.cells #[.slice none 0 0,.slice none 0 0,.int .i64 0] 30)).setCell ⟨cb,5,none⟩ (.int .i64 ((t:Int)+1)))=W3∧CourseAt W3 cb mb al L kl p ln kp ((t+1:Nat):Int) Fs ∧
      Box W3 (w.heap.size+1) [.slice none 0 0,.slice none 0 0,.int .i64 0] 30∧Box W3 w.heap.size [.slice a0 n k0,.slice a1 n1 k1,.int .i64 z] 30∧Far (isB cb) w W3:=
    ⟨_,rfl,by have:=CB.tick ((t+1:Nat):Int);rwa [show ((t+1:Nat):Int)=(t:Int)+1 by omega] at this ⊢,
      (Box.new' (w.alloc (.cells #[.slice a0 n k0,.slice a1 n1 k1,.int .i64 z] 30)) (w.heap.size+1) [.slice none 0 0,.slice none 0 0,.int .i64 0] 30 (by simp)).far (by dsimp only;omega) _,
      ((Box.new w [.slice a0 n k0,.slice a1 n1 k1,.int .i64 z] 30).alloc _).far (by dsimp only;omega) _,
      (((Far.refl (isB cb) w).al _).al _).st (a:=⟨cb,5,none⟩) (fun _=>(rfl:cb=cb)) _⟩
  have hs3:=F3.size
  have hcell4:=CB3.box.cell 4
  have hcell5:=CB3.box.cell 5
  have hlk:=CB3.drew.has (t:=t+1) (by omega)
  have hcell4a:=fun ob=>(CB3.alloc ob).box.cell 4
  have hcell5a:=fun ob=>(CB3.alloc ob).box.cell 5
  have hlka:=fun ob=>(CB3.alloc ob).drew.has (t:=t+1) (by omega)
  have e1:((t+1:Nat):Int)=(t:Int)+1:=by omega
  simp only [hf,e1] at hlk hlka hcell5 hcell5a
  have HR3:=Lib.hid (And.intro R3 (And.intro CB3 (And.intro F3 S3)))
  clear R3 F3 CB CB3 S3 h hf
  go_enter Tryz.func14,Tryz.ntmps14
  go_wp2
  go_region
  obtain ⟨W4,hW4,CB4,R4,S4,F4⟩:∃ W4,(W3.alloc (.cells #[] 53)).drew=W4∧CourseAt W4 cb mb al L kl p ln kp ((t+1:Nat):Int) Fs∧Box W4 (w.heap.size+1) [.slice none 0 0,.slice none 0 0,.int .i64 0] 30∧Box W4 w.heap.size [.slice a0 n k0,.slice a1 n1 k1,.int .i64 z] 30∧Far (isB cb) w W4:=
    ⟨_,rfl,(HR3.out.2.1.alloc _).drew,(HR3.out.1.alloc _).drew,(HR3.out.2.2.2.alloc _).drew,(HR3.out.2.2.1.al _).drew⟩
  rw [hW4]
  have r0:=h0.farS F4 (fun b hb _=>hb)
  have r1:=h1.farS F4 (fun b hb _=>hb)
  have rl:=hl.farS F4 (fun b hb _=>hb)
  have h4s:=F4.size
  have hal:=rl.ptr (by omega)
  have hblz:=rl.lt (by omega)
  obtain ⟨aA,nA,kA,bA,oA,aB,nB,kB,bB,oB,x0,x1,x2,x3,x4,x5,y1,y2⟩:=bat_cells (i:=k) (d:=bx l k) rl (bx_get (by omega))
  rw [HD.out] at x0 x1 x3 x4 y1 y2
  subst hal
  have hC4:=CB4.box
  have hkL:(k:Int)<(L:Int):=by omega
  have hk0:(0:Int)≤(k:Int):=by omega
  have R4z:=R4.lt
  have S4z:=S4.lt
  have C4z:=hC4.lt
  have M4z:=CB4.map.lt
  have HB4:=Lib.hid CB4
  have M6:Cells6 W4 bl (ol+k*6) (.int .i64 d.I.rows) (.int .i64 d.I.cols) (.slice aA nA kA) (.int .i64 d.W.rows) (.int .i64 d.W.cols) (.slice aB nB kB):=⟨x0,x1,x2,x3,x4,x5⟩
  have HT:Hid (∀ W',Below W4.heap.size W4 W'→Calls Tryz.prog 33 #[.agg #[.slice a0 n k0,.slice a1 n1 k1,.int .i64 z],.agg #[.int .i64 d.I.rows,.int .i64 d.I.cols,.slice aA nA kA,.int .i64 d.W.rows,.int .i64 d.W.cols,.slice aB nB kB],.int .i64 p,.agg #[.int .i64 ln,.int .i64 kp]] W' (OneEnd W' S d p ln kp)):=Lib.hid (fun W' hW=>by
    have:=trainOne_any S d p ln kp _ _ _ _ _ _ _ _ _ _ _ _ _ W' (r0.keep hW) (r1.keep hW) ⟨aA,nA,kA,bA,oA,aB,nB,kB,bB,oB,rfl,y1.keep hW,y2.keep hW⟩
    rwa [HZ.out] at this)
  clear r0 r1 y1 y2 x0 x1 x2 x3 x4 x5
  clear hcell4 hcell5 hlk hcell4a hcell5a hlka HR3 hW3 hW4 c5 f5 h0 h1 hl
  go_wp2_with fail
  go_cut [10,12] (fun x y wx=>∃ (b:Nat) (a6 a7:Option Addr) (n6 n7 k6 k7 b6 b7:Nat) (z7:Int),x=.pointer (some ⟨b,0,none⟩)∧y=errV (oneFault S d p ln kp)∧Box wx b [.slice a6 n6 k6,.slice a7 n7 k7,.int .i64 z7] 30∧b≠w.heap.size+1∧b≠cb∧b≠mb∧Below W4.heap.size W4 wx ∧
      (oneFault S d p ln kp=0→z7=(oneOf S d p ln kp).steps∧RowAt Form.lay wx (fun c=>newB W4.heap.size c∧c≠b) a6 n6 k6 b6 0 (oneOf S d p ln kp).N∧RowAt Form.grd wx (fun c=>newB W4.heap.size c∧c≠b) a7 n7 k7 b7 0 (oneOf S d p ln kp).V)∧(oneFault S d p ln kp≠0→(.agg #[.slice a6 n6 k6,.slice a7 n7 k7,.int .i64 z7]:Value)=.agg #[.slice none 0 0,.slice none 0 0,.int .i64 0]))
  case first=>
    go_region_held3 (fun w'=>w'.cell? ⟨w.heap.size,0,none⟩=some (.slice a0 n k0)∧w'.cell? ⟨w.heap.size,1,none⟩=some (.slice a1 n1 k1)∧w'.cell? ⟨w.heap.size,2,none⟩=some (.int .i64 z)∧w'.cell? ⟨bl,ol+k*6,none⟩=some (.int .i64 d.I.rows)∧w'.cell? ⟨bl,ol+k*6+1,none⟩=some (.int .i64 d.I.cols)∧w'.cell? ⟨bl,ol+k*6+2,none⟩=some (.slice aA nA kA)∧w'.cell? ⟨bl,ol+k*6+3,none⟩=some (.int .i64 d.W.rows)∧w'.cell? ⟨bl,ol+k*6+4,none⟩=some (.int .i64 d.W.cols)∧w'.cell? ⟨bl,ol+k*6+5,none⟩=some (.slice aB nB kB)∧w'.cell? ⟨cb,0,none⟩=some (.slice (some ⟨bl,ol,none⟩) L kl)∧w'.cell? ⟨cb,1,none⟩=some (.int .i64 p)∧w'.cell? ⟨cb,2,none⟩=some (.int .i64 ln)∧w'.cell? ⟨cb,3,none⟩=some (.int .i64 kp)) (first|(have hb5x:=hb5;exact cells_dr (show Box _ w.heap.size [.slice a0 n k0,.slice a1 n1 k1,.int .i64 z] 30 from (by repeat (first|(with_reducible first|exact S4|refine Box.alloc ?_ _|refine Box.drewN ?_ _|refine Box.drew ?_|refine Box.set6z ?_ _ _ _ _ _ _|refine Box.set3z ?_ _ _ _|refine Box.fx ?_ _|refine Box.keep ?_ hb5)|exact S4))) (show Cells6 _ bl (ol+k*6) (.int .i64 d.I.rows) (.int .i64 d.I.cols) (.slice aA nA kA) (.int .i64 d.W.rows) (.int .i64 d.W.cols) (.slice aB nB kB) from (by repeat (first|(with_reducible first|exact M6|refine Cells6.alloc ?_ _|refine Cells6.drewN ?_ _|refine Cells6.drew ?_|(refine Cells6.far ?_ ?_ _;rotate_left 1;(first|(dsimp only;omega)|omega|(simp;omega)|simp))|refine Cells6.keep ?_ hb5)|exact M6))) (show Box _ cb [.slice (some ⟨bl,ol,none⟩) L kl,.int .i64 p,.int .i64 ln,.int .i64 kp,.map (some mb),.int .i64 ((t+1:Nat):Int)] 52 from (by repeat (first|(with_reducible first|exact hC4|refine Box.alloc ?_ _|refine Box.drewN ?_ _|refine Box.drew ?_|refine Box.set6z ?_ _ _ _ _ _ _|refine Box.set3z ?_ _ _ _|refine Box.fx ?_ _|refine Box.keep ?_ hb5)|exact hC4))))|exact cells_dr (show Box _ w.heap.size [.slice a0 n k0,.slice a1 n1 k1,.int .i64 z] 30 from (by repeat (first|(with_reducible first|exact S4|refine Box.alloc ?_ _|refine Box.drewN ?_ _|refine Box.drew ?_|refine Box.set6z ?_ _ _ _ _ _ _|refine Box.set3z ?_ _ _ _|refine Box.fx ?_ _)|exact S4))) (show Cells6 _ bl (ol+k*6) (.int .i64 d.I.rows) (.int .i64 d.I.cols) (.slice aA nA kA) (.int .i64 d.W.rows) (.int .i64 d.W.cols) (.slice aB nB kB) from (by repeat (first|(with_reducible first|exact M6|refine Cells6.alloc ?_ _|refine Cells6.drewN ?_ _|refine Cells6.drew ?_|(refine Cells6.far ?_ ?_ _;rotate_left 1;(first|(dsimp only;omega)|omega|(simp;omega)|simp)))|exact M6))) (show Box _ cb [.slice (some ⟨bl,ol,none⟩) L kl,.int .i64 p,.int .i64 ln,.int .i64 kp,.map (some mb),.int .i64 ((t+1:Nat):Int)] 52 from (by repeat (first|(with_reducible first|exact hC4|refine Box.alloc ?_ _|refine Box.drewN ?_ _|refine Box.drew ?_|refine Box.set6z ?_ _ _ _ _ _ _|refine Box.set3z ?_ _ _ _|refine Box.fx ?_ _)|exact hC4))))
      ((go_at_call 33;go_must (refine (HT.out _ Below.x0).mono ?_);go_must (rintro e w5 ⟨vR,offr,rfl,hb5,hR,hR'⟩);go_must (obtain ⟨a6,n6,k6,b6,a7,n7,k7,b7,z7,rfl,hQ,hQ'⟩:=one_ends hR hR');(try (have hb5a:Below (W4.drew.alloc (Obj.cells #[.slice none 0 0,.slice none 0 0,.int .i64 0] 30)).heap.size (W4.drew.alloc (Obj.cells #[.slice none 0 0,.slice none 0 0,.int .i64 0] 30)) w5:=hb5;have P13:Box w5 W4.heap.size [.slice none 0 0,.slice none 0 0,.int .i64 0] 30:=Box.keep (Box.new' W4.drew W4.heap.size [.slice none 0 0,.slice none 0 0,.int .i64 0] 30 rfl) hb5a;have P13c:=P13.cell;have P13f:=P13.thawed;have P13z:=P13.lt))))
    all_goals (
      have hz5:=((Below.x1 hb5):Below W4.heap.size W4 w5).size
      go_wp2_with fail
      go_meet
      first
      | exact ⟨W4.heap.size,a6,a7,n6,n7,k6,k7,b6,b7,z7,rfl,rfl,((P13.set 0 _).set 1 _).set 2 _,by omega,by omega,by omega,((((Below.x1 hb5):Below W4.heap.size W4 w5).setCell (Nat.le_refl _) _).setCell (Nat.le_refl _) _).setCell (Nat.le_refl _) _,
          fun h=>⟨(hQ h).1,((hQ h).2.1.farS ((((Far.refl (fun c=>c=W4.heap.size) w5).st (fun _=>rfl) _).st (fun _=>rfl) _).st (fun _=>rfl) _) (fun c hc _ hh=>by unfold newB at hc;have h4:c=W4.heap.size:=hh;simp at hc;omega)).wide (fun c hc _=>by unfold newB at hc ⊢;simp at hc;constructor <;> omega),
            ((hQ h).2.2.farS ((((Far.refl (fun c=>c=W4.heap.size) w5).st (fun _=>rfl) _).st (fun _=>rfl) _).st (fun _=>rfl) _) (fun c hc _ hh=>by unfold newB at hc;have h4:c=W4.heap.size:=hh;simp at hc;omega)).wide (fun c hc _=>by unfold newB at hc ⊢;simp at hc;constructor <;> omega)⟩,hQ'⟩
      | exact ⟨w5.heap.size,a6,a7,n6,n7,k6,k7,b6,b7,z7,rfl,rfl,Box.x0,by omega,by omega,by omega,(Below.x1 hb5),
          fun h=>⟨(hQ h).1,((hQ h).2.1.wide (fun c hc hl=>by unfold newB at hc ⊢;simp at hc;constructor <;> omega)).alloc _,((hQ h).2.2.wide (fun c hc hl=>by unfold newB at hc ⊢;simp at hc;constructor <;> omega)).alloc _⟩,hQ'⟩)
  case rest=>
    obtain ⟨b,a6,a7,n6,n7,k6,k7,b6,b7,z7,rfl,rfl,BT,hne1,hne2,hne3,hbc,hQ,hQ'⟩:=hcut
    have hzc:=hbc.size
    have CBc:=HB4.out.keep hbc
    have R6:=R4.keep hbc
    have r0:=R6.cell 0
    have r1:=R6.cell 1
    have r2:=R6.cell 2
    have q0:=R6.thawed 0
    have q1:=R6.thawed 1
    have q2:=R6.thawed 2
    have u0:=BT.cell 0
    have u1:=BT.cell 1
    have u2:=BT.cell 2
    have R7:=((R6.set 0 (.slice a6 n6 k6)).set 1 (.slice a7 n7 k7)).set 2 (.int .i64 z7)
    have z0:=R7.cell 0
    have z1:=R7.cell 1
    have z2:=R7.cell 2
    obtain ⟨wz,hwz⟩:∃ wz,(((wc.setCell ⟨w.heap.size+1,0,none⟩ (.slice a6 n6 k6)).setCell ⟨w.heap.size+1,1,none⟩ (.slice a7 n7 k7)).setCell ⟨w.heap.size+1,2,none⟩ (.int .i64 z7))=wz:=⟨_,rfl⟩
    have hfz:Far (isB (w.heap.size+1)) wc wz:=by rw [← hwz];exact (((Far.refl (isB (w.heap.size+1)) wc).st (a:=⟨w.heap.size+1,0,none⟩) (fun _=>rfl) _).st (a:=⟨w.heap.size+1,1,none⟩) (fun _=>rfl) _).st (a:=⟨w.heap.size+1,2,none⟩) (fun _=>rfl) _
    have hno:∀ c,newB W4.heap.size c→¬ isB (w.heap.size+1) c:=fun c hc e=>by unfold newB at hc;unfold isB at e;omega
    have HQ:Hid (CourseAt wz cb mb (some ⟨bl,ol,none⟩) L kl p ln kp ((t+1:Nat):Int) Fs∧Far (isB cb) w wz∧(oneFault S d p ln kp=0→StaNew w.heap.size wz (.agg #[.slice a6 n6 k6,.slice a7 n7 k7,.int .i64 z7]) (oneOf S d p ln kp))∧(oneFault S d p ln kp≠0→(.agg #[.slice a6 n6 k6,.slice a7 n7 k7,.int .i64 z7]:Value)=.agg #[.slice none 0 0,.slice none 0 0,.int .i64 0])):=Lib.hid (by
      refine ⟨?_,?_,?_,hQ'⟩
      · rw [← hwz]
        exact ((CBc.far (by dsimp only;omega) (by dsimp only;omega) _).far (by dsimp only;omega) (by dsimp only;omega) _).far (by dsimp only;omega) (by dsimp only;omega) _
      · rw [← hwz]
        exact (((F4.trans (Far.of_below hbc)).st (fun h=>by exfalso;dsimp only at h;omega) _).st (fun h=>by exfalso;dsimp only at h;omega) _).st (fun h=>by exfalso;dsimp only at h;omega) _
      · intro h
        obtain ⟨e9,g1,g2⟩:=hQ h
        subst e9
        exact ⟨a6,n6,k6,b6,a7,n7,k7,b7,rfl,(g1.farS hfz (fun c hc _=>hno c hc.1)).wide (fun c hc _=>by have h9:=hc.1;unfold newB at h9 ⊢;omega),(g2.farS hfz (fun c hc _=>hno c hc.1)).wide (fun c hc _=>by have h9:=hc.1;unfold newB at h9 ⊢;omega)⟩)
    clear hQ hQ' R6 R7 hfz hno CBc BT HT M6 S4 hC4 R4 F4 rl
    rw [hwz] at z0 z1 z2
    go_wp2
    try rw [hwz]
    refine bodyPost_ret (v:=.tuple #[.agg #[.slice a6 n6 k6,.slice a7 n7 k7,.int .i64 z7],errV (oneFault S d p ln kp)]) (by simp [results,Tryz.results14,go_sem,z0,z1,z2]) rfl ⟨_,rfl,HQ.out.1,HQ.out.2.1,HQ.out.2.2.1,HQ.out.2.2.2⟩
end Go.Proofs.YtchngeagnlngaaaGreatDoor
end
section
namespace Gal
def seven (x:Nat):List Nat:=if h:x<128 then [x] else (128+x % 128) :: seven (x / 128)
termination_by x
decreasing_by omega
theorem seven_low {x:Nat} (h:x<128):seven x=[x]:=by rw [seven,dif_pos h]
theorem seven_high {x:Nat} (h:¬ x<128):seven x=(128+x % 128) :: seven (x / 128):=by rw [seven,dif_neg h]
def zigOf (x:Int):Nat:=if 0≤x then (2*x).toNat else (-2*x - 1).toNat
def zagOf (n:Nat):Int:=if n % 2=1 then -((n / 2:Nat):Int) - 1 else ((n / 2:Nat):Int)
theorem zag_zig (x:Int):zagOf (zigOf x)=x:=by
 unfold zigOf zagOf
 by_cases h:0≤x
 ·rw [if_pos h,if_neg (by omega)]
  omega
 ·rw [if_neg h,if_pos (by omega)]
  omega
def refSums (l:List Nat):Nat × Nat:=l.foldl (fun s v=>(s.1+v,s.2+(s.1+v) % 255)) (0,0)
def prgSums (l:List Nat):Nat × Nat:=l.foldl (fun s v=>((s.1+v) % 255,(s.2+(s.1+v) % 255) % 255)) (0,0)
theorem sums_from:∀ (l:List Nat) (s t:Nat × Nat),t=(s.1 % 255,s.2 % 255) →
  l.foldl (fun s v=>((s.1+v) % 255,(s.2+(s.1+v) % 255) % 255)) t=((l.foldl (fun s v=>(s.1+v,s.2+(s.1+v) % 255)) s).1 % 255,(l.foldl (fun s v=>(s.1+v,s.2+(s.1+v) % 255)) s).2 % 255)
 | [],s,t,h=>h
 | v :: l,s,t,h=>by
  rw [List.foldl_cons,List.foldl_cons]
  refine sums_from l _ _ ?_
  subst h
  dsimp only
  have h1:(s.1 % 255+v) % 255=(s.1+v) % 255:=by omega
  rw [h1]
  congr 1
  omega
theorem sums_same (l:List Nat):prgSums l=((refSums l).1 % 255,(refSums l).2 % 255):=sums_from l (0,0) (0,0) rfl
end Gal
namespace Gal
open Go
theorem or_add {x d i:Nat} (h:x<2 ^ i):x ||| d <<< i=x+d*2 ^ i:=by
 rw [Nat.shiftLeft_eq,Nat.or_comm,Nat.mul_comm d,← Nat.two_pow_add_eq_or_of_lt h]
 omega
theorem i64_not' (x:Int) (h1:-9223372036854775808≤x) (h2:x<9223372036854775808):bits .xor .i64 x (-1) = -1 - x:=by
 show IntKind.i64.wrap ((BitVec.ofInt 64 x ^^^ BitVec.ofInt 64 (-1)).toNat:Int)=_
 have h3:BitVec.ofInt 64 (-1)=BitVec.allOnes 64:=by decide
 rw [h3,BitVec.xor_allOnes,BitVec.toNat_not,BitVec.toNat_ofInt]
 simp [IntKind.wrap,IntKind.bits,IntKind.signed]
 omega
theorem i64_xor_zero (x:Int) (h1:-9223372036854775808≤x) (h2:x<9223372036854775808):bits .xor .i64 x 0=x:=by
 show IntKind.i64.wrap ((BitVec.ofInt 64 x ^^^ BitVec.ofInt 64 0).toNat:Int)=_
 have h3:BitVec.ofInt 64 0=0#64:=by decide
 rw [h3,BitVec.xor_zero,BitVec.toNat_ofInt]
 simp [IntKind.wrap,IntKind.bits,IntKind.signed]
 omega
end Gal
end
section
namespace Gal
def sevGo (bs:List Nat) (at0:Nat):Nat→Nat→Nat→Option (Nat × Nat)
 | 0,_,_=>none
 | f+1,i,x=>match bs[at0+i]? with
  | none=>none
  | some d=>if d<128 then (if d=0∧0<i then none else some (x+d*2 ^ (7*i),at0+i+1)) else sevGo bs at0 f (i+1) (x+d % 128*2 ^ (7*i))
def sevAt (bs:List Nat) (at0:Nat):Option (Nat × Nat):=sevGo bs at0 9 0 0
theorem sevGo_lt {bs:List Nat} {at0:Nat}:∀ {f i x y e:Nat},x<2 ^ (7*i)→sevGo bs at0 f i x=some (y,e)→y<2 ^ (7*(i+f))
 | 0,i,x,y,e,_,h=>by cases h
 | f + 1,i,x,y,e,hx,h=>by
  rw [sevGo] at h
  have hp:2 ^ (7*(i+1))=128*2 ^ (7*i):=by rw [show 7*(i+1)=7*i+7 by omega,Nat.pow_add];omega
  have hd:∀ d,d<128→x+d*2 ^ (7*i)<2 ^ (7*(i+1)):=fun d hd=>by
   have h1:d*2 ^ (7*i)≤127*2 ^ (7*i):=Nat.mul_le_mul_right _ (by omega)
   omega
  cases hb:bs[at0+i]? with
  | none=>rw [hb] at h;cases h
  | some d=>
   rw [hb] at h
   dsimp only at h
   by_cases h1:d<128
   ·rw [if_pos h1] at h
    by_cases h2:d=0∧0<i
    ·rw [if_pos h2] at h;cases h
    ·rw [if_neg h2] at h
     simp only [Option.some.injEq,Prod.mk.injEq] at h
     rw [← h.1]
     refine Nat.lt_of_lt_of_le (hd d h1) (Nat.pow_le_pow_right (by omega) (by omega))
   ·rw [if_neg h1] at h
    have h3:=sevGo_lt (hd (d % 128) (by omega)) h
    rw [show i+1+f=i+(f+1) by omega] at h3
    exact h3
theorem sevAt_lt {bs:List Nat} {at0 y e:Nat} (h:sevAt bs at0=some (y,e)):y<2 ^ 63:=sevGo_lt (by decide) h
theorem sevGo_write {bs:List Nat} {at0:Nat}:∀ {f x i acc:Nat},(∀ k b,(seven x)[k]?=some b→bs[at0+i+k]?=some b)→(seven x).length≤f→(0<i→0<x)→sevGo bs at0 f i acc=some (acc+x*2 ^ (7*i),at0+i+(seven x).length)
 | 0,x,i,acc,_,hl,_=>by
  by_cases h:x<128
  ·rw [seven_low h] at hl;simp at hl
  ·rw [seven_high h] at hl;simp at hl
 | f + 1,x,i,acc,hb,hl,h0=>by
  rw [sevGo]
  by_cases h:x<128
  ·have h1:=hb 0 x (by rw [seven_low h];rfl)
   rw [Nat.add_zero] at h1
   rw [h1,seven_low h]
   dsimp only
   rw [if_pos h,if_neg (by omega)]
   rfl
  ·have h1:=hb 0 (128+x % 128) (by rw [seven_high h];rfl)
   rw [Nat.add_zero] at h1
   rw [h1]
   dsimp only
   rw [if_neg (by omega)]
   rw [seven_high h] at hl
   simp only [List.length_cons] at hl
   rw [sevGo_write (x:=x / 128) (fun k b hk=>by
    have h2:=hb (k+1) b (by rw [seven_high h];exact hk)
    rw [show at0+i+(k+1)=at0+(i+1)+k by omega] at h2
    exact h2) (by omega) (by omega)]
   rw [seven_high h,List.length_cons]
   simp only [Option.some.injEq,Prod.mk.injEq]
   constructor
   ·rw [show 7*(i+1)=7*i+7 by omega,Nat.pow_add]
    have e1:(128+x % 128) % 128=x % 128:=by omega
    rw [e1,Nat.add_assoc]
    congr 1
    have e2:x=x % 128+x / 128*128:=by omega
    have e3:x / 128*(2 ^ (7*i)*2 ^ 7)=(x / 128*128)*2 ^ (7*i):=by
     rw [show (2:Nat) ^ 7=128 by decide,Nat.mul_comm (2 ^ (7*i)) 128,Nat.mul_assoc]
    rw [e3,← Nat.add_mul]
    congr 1
    omega
   ·omega
theorem seven_len:∀ {n x:Nat},x<128 ^ n→0<n→(seven x).length≤n
 | 0,x,_,h=>by omega
 | n+1,x,hx,_=>by
  by_cases h:x<128
  ·rw [seven_low h];simp
  ·rw [seven_high h,List.length_cons]
   have h1:x / 128<128 ^ n:=by rw [Nat.pow_succ] at hx;omega
   have hn:0<n:=by
    rcases Nat.eq_zero_or_pos n with h2|h2
    ·subst h2;simp at h1;omega
    ·exact h2
   have:=seven_len h1 hn
   omega
theorem seven_pos (x:Nat):1≤(seven x).length:=by
 by_cases h:x<128
 ·rw [seven_low h];simp
 ·rw [seven_high h];simp
theorem seven_9 {x:Nat} (h:x<9223372036854775808):(seven x).length≤9:=seven_len (by omega) (by omega)
theorem sevAt_write {pre post:List Nat} {x:Nat} (h:x<9223372036854775808):sevAt (pre++seven x++post) pre.length=some (x,pre.length+(seven x).length):=by
 unfold sevAt
 rw [sevGo_write (x:=x) (fun k b hk=>by
  have hkl:k<(seven x).length:=by
   rcases Nat.lt_or_ge k (seven x).length with h1|h1
   ·exact h1
   ·rw [List.getElem?_eq_none h1] at hk;cases hk
  rw [Nat.add_zero,List.append_assoc,List.getElem?_append_right (by omega),Nat.add_sub_cancel_left,List.getElem?_append_left hkl]
  exact hk) (seven_9 h) (by omega)]
 simp
end Gal
end
