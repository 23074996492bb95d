/- Texts joined: Lay3. -/
import Derived.Test.YtchngeagnlngaaaGreatDoorJ07
import Derived.StillTailTactics
import Derived.BigQuiet
import Derived.Deep.DeepMust
import Derived.Deep.RegionHeld3
set_option linter.unusedVariables false
set_option linter.unusedSimpArgs false
section
namespace Go.Proofs.YtchngeagnlngaaaGreatDoor
open Go.RowKit Gal
set_option maxRecDepth 100000
set_option maxHeartbeats 1000000
theorem m_wide_1 (w:World):(Go.method 353 196 (.agg #[]) "galley/layer.wide").run Tryz.prog w=.ok (146,.agg #[]) w:=by kernel_rfl
theorem n_wide_1 (w:World):(Go.nilAhead 353 196 (.agg #[]) "galley/layer.wide").run Tryz.prog w=.ok (some false) w:=by kernel_rfl
theorem m_wide_2 (w:World):(Go.method 353 199 (.agg #[]) "galley/layer.wide").run Tryz.prog w=.ok (156,.agg #[]) w:=by kernel_rfl
theorem n_wide_2 (w:World):(Go.nilAhead 353 199 (.agg #[]) "galley/layer.wide").run Tryz.prog w=.ok (some false) w:=by kernel_rfl
theorem m_wide_3 (w:World):(Go.method 353 200 (.agg #[]) "galley/layer.wide").run Tryz.prog w=.ok (156,.agg #[]) w:=by kernel_rfl
theorem n_wide_3 (w:World):(Go.nilAhead 353 200 (.agg #[]) "galley/layer.wide").run Tryz.prog w=.ok (some false) w:=by kernel_rfl
theorem m_wide_4 (w:World):(Go.method 353 201 (.agg #[]) "galley/layer.wide").run Tryz.prog w=.ok (170,.agg #[]) w:=by kernel_rfl
theorem n_wide_4 (w:World):(Go.nilAhead 353 201 (.agg #[]) "galley/layer.wide").run Tryz.prog w=.ok (some false) w:=by kernel_rfl
theorem wide_1 (kd:Int) (W B:Mat) (i:Int) (a a':Option Addr) (n n' k k':Nat) (w:World) :
  Calls Tryz.prog 146 #[.agg #[],.agg #[.int .i64 kd,.int .i64 W.rows,.int .i64 W.cols,.slice a n k,.int .i64 B.rows,.int .i64 B.cols,.slice a' n' k'],.int .i64 i] w fun e w'=>e=.returned (.tuple #[.int .i64 W.cols,.bool (i == W.rows)])∧Below w.heap.size w w':=by
 go_enter Tryz.func146,Tryz.ntmps146
 go_wp2
 go_quiet (fail)
 go_wp2
 go_ret2
 exact ⟨rfl,Below.x0⟩
theorem wide_4 (kd:Int) (W B:Mat) (i:Int) (a a':Option Addr) (n n' k k':Nat) (w:World) :
  Calls Tryz.prog 170 #[.agg #[],.agg #[.int .i64 kd,.int .i64 W.rows,.int .i64 W.cols,.slice a n k,.int .i64 B.rows,.int .i64 B.cols,.slice a' n' k'],.int .i64 i] w fun e w'=>e=.returned (.tuple #[.int .i64 i,.bool (i == B.cols)])∧Below w.heap.size w w':=by
 go_enter Tryz.func170,Tryz.ntmps170
 go_wp2
 go_quiet (fail)
 go_wp2
 go_ret2
 exact ⟨rfl,Below.x0⟩
theorem wide_s (kd:Int) (W B:Mat) (i:Int) (a a':Option Addr) (n n' k k':Nat) (w:World) :
  Calls Tryz.prog 156 #[.agg #[],.agg #[.int .i64 kd,.int .i64 W.rows,.int .i64 W.cols,.slice a n k,.int .i64 B.rows,.int .i64 B.cols,.slice a' n' k'],.int .i64 i] w fun e w'=>e=.returned (.tuple #[.int .i64 i,.bool true])∧Below w.heap.size w w':=by
 go_enter Tryz.func156,Tryz.ntmps156
 go_wp2
 go_ret2
 exact ⟨rfl,Below.x0⟩
theorem layWide_bad (l:Lay) (i:Int) (v:Value) (w:World) (h:LayAt w v l) (fl:l.fault≠0) :
  Calls Tryz.prog 99 #[v,.int .i64 i] w fun e w'=>e=.returned (.tuple #[.int .i64 (okOr (l.wideFault i) (l.wide i)),errV (l.wideFault i)])∧Below w.heap.size w w':=by
 have hw:l.wideFault i=l.fault:=if_pos fl
 have hE:errV l.fault=.iface 36 (.int .i64 l.fault):=errV_err fl
 rw [hw,okOr_bad fl,hE]
 obtain ⟨a,n,k,b,o,a',n',k',b',o',rfl,x0,x1⟩:=h
 clear hw fl
 go_enter Tryz.func99,Tryz.ntmps99
 go_wp2_with fail
 refine (layCheck_any l _ _ ⟨_,_,_,_,_,_,_,_,_,_,rfl,x0.alloc _,x1.alloc _⟩).mono ?_
 rintro e w1 ⟨rfl,hb1⟩
 go_wp2
 go_ret2
 exact ⟨rfl,(Below.x1 hb1)⟩
theorem takes_2 (W B:Mat) (i:Int):Lay.takes ⟨2,W,B⟩ i:=⟨fun h=>absurd h (by simp),fun h=>absurd h (by simp)⟩
theorem takes_3 (W B:Mat) (i:Int):Lay.takes ⟨3,W,B⟩ i:=⟨fun h=>absurd h (by simp),fun h=>absurd h (by simp)⟩
theorem layWide_1 (W B:Mat) (i:Int) (v:Value) (w:World) (h:LayAt w v ⟨1,W,B⟩) (hi:-9223372036854775808≤i∧i≤9223372036854775807) :
  Calls Tryz.prog 99 #[v,.int .i64 i] w fun e w'=>e=.returned (.tuple #[.int .i64 (okOr (Lay.wideFault ⟨1,W,B⟩ i) (Lay.wide ⟨1,W,B⟩ i)),errV (Lay.wideFault ⟨1,W,B⟩ i)])∧Below w.heap.size w w':=by
 obtain ⟨hi1,hi2⟩:=hi
 obtain ⟨a,n,k,b,o,a',n',k',b',o',rfl,x0,x1⟩:=h
 dsimp only at x0 x1
 by_cases fl:Lay.fault ⟨1,W,B⟩=0
 ·have hE:errV (Lay.fault ⟨1,W,B⟩)=.nilIface:=errV_nil fl
  have hw:Lay.wideFault ⟨1,W,B⟩ i=if i<0∨12<i then 1 else if Lay.takes ⟨1,W,B⟩ i then 0 else 2:=if_neg (fun h=>h fl)
  by_cases hr:i<0∨12<i
  ·rw [if_pos hr] at hw
   rw [hw,okOr_bad (by decide),errV_err (by decide)]
   clear hw fl
   rcases hr with hr|hr
   ·go_enter Tryz.func99,Tryz.ntmps99
    go_wp2_with fail
    refine (layCheck_any ⟨1,W,B⟩ _ _ ⟨_,_,_,_,_,_,_,_,_,_,rfl,x0.alloc _,x1.alloc _⟩).mono ?_
    rintro e w1 ⟨rfl,hb1⟩
    go_wp2
    go_ret2
    exact ⟨rfl,(Below.x1 hb1)⟩
   ·have hr0:¬ i<0:=by omega
    go_enter Tryz.func99,Tryz.ntmps99
    go_wp2_with fail
    refine (layCheck_any ⟨1,W,B⟩ _ _ ⟨_,_,_,_,_,_,_,_,_,_,rfl,x0.alloc _,x1.alloc _⟩).mono ?_
    rintro e w1 ⟨rfl,hb1⟩
    go_wp2
    go_ret2
    exact ⟨rfl,(Below.x1 hb1)⟩
  ·rw [if_neg hr] at hw
   have hr0:¬ i<0:=by omega
   have hr1:¬ 12<i:=by omega
   have hm:∀ w,(Go.method 353 196 (.agg #[]) "galley/layer.wide").run Tryz.prog w=.ok (146,.agg #[]) w:=m_wide_1
   have hn:∀ w,(Go.nilAhead 353 196 (.agg #[]) "galley/layer.wide").run Tryz.prog w=.ok (some false) w:=n_wide_1
   by_cases ht:Lay.takes ⟨1,W,B⟩ i
   ·rw [if_pos ht] at hw
    rw [hw,okOr_ok rfl,errV_nil rfl]
    have hb:(i == W.rows)=true:=by have:=ht.1 rfl;simp [this]
    clear hw fl ht hr
    go_enter Tryz.func99,Tryz.ntmps99
    go_wp2_with fail
    refine (layCheck_any ⟨1,W,B⟩ _ _ ⟨_,_,_,_,_,_,_,_,_,_,rfl,x0.alloc _,x1.alloc _⟩).mono ?_
    rintro e w1 ⟨rfl,hb1⟩
    have B0:=(Box.new w [.int .i64 1,.int .i64 W.rows,.int .i64 W.cols,.slice a n k,.int .i64 B.rows,.int .i64 B.cols,.slice a' n' k'] 84).keep hb1
    have B0c:=B0.cell
    have B0f:=B0.thawed
    have B0z:=B0.lt
    have B0k:=lt_add B0z
    go_wp2_with fail
    go_region_held3 (fun w'=>w'.cell? ⟨w.heap.size,0,none⟩=some (.int .i64 1)∧w'.cell? ⟨w.heap.size,1,none⟩=some (.int .i64 W.rows)∧w'.cell? ⟨w.heap.size,2,none⟩=some (.int .i64 W.cols)∧w'.cell? ⟨w.heap.size,3,none⟩=some (.slice a n k)∧w'.cell? ⟨w.heap.size,4,none⟩=some (.int .i64 B.rows)∧w'.cell? ⟨w.heap.size,5,none⟩=some (.int .i64 B.cols)∧w'.cell? ⟨w.heap.size,6,none⟩=some (.slice a' n' k')) (first|(exact ⟨B0.cell 0,B0.cell 1,B0.cell 2,B0.cell 3,B0.cell 4,B0.cell 5,B0.cell 6⟩)|(exact ⟨(B0.drew.keep hb2).cell 0,(B0.drew.keep hb2).cell 1,(B0.drew.keep hb2).cell 2,(B0.drew.keep hb2).cell 3,(B0.drew.keep hb2).cell 4,(B0.drew.keep hb2).cell 5,(B0.drew.keep hb2).cell 6⟩)|(go_keep;done)) (first|(go_at_call 80;go_must (refine (of_1 _).mono ?_);go_must (rintro e w' ⟨rfl,rfl⟩))|(go_at_call 146;go_must (refine (wide_1 1 W B i a a' n n' k k' _).mono ?_);go_must (rintro e w2 ⟨rfl,hb2⟩)))
    all_goals (
     go_wp2
     go_ret2
     exact ⟨rfl,(Below.x2 hb2 hb1)⟩)
   ·skip
    rw [if_neg ht] at hw
    rw [hw,okOr_bad (by decide),errV_err (by decide)]
    have hb:(i == W.rows)=false:=by simp;intro h;exact ht ⟨fun _=>h,fun h'=>absurd h' (by simp)⟩
    clear hw fl ht hr
    go_enter Tryz.func99,Tryz.ntmps99
    go_wp2_with fail
    refine (layCheck_any ⟨1,W,B⟩ _ _ ⟨_,_,_,_,_,_,_,_,_,_,rfl,x0.alloc _,x1.alloc _⟩).mono ?_
    rintro e w1 ⟨rfl,hb1⟩
    have B0:=(Box.new w [.int .i64 1,.int .i64 W.rows,.int .i64 W.cols,.slice a n k,.int .i64 B.rows,.int .i64 B.cols,.slice a' n' k'] 84).keep hb1
    have B0c:=B0.cell
    have B0f:=B0.thawed
    have B0z:=B0.lt
    have B0k:=lt_add B0z
    go_wp2_with fail
    go_region_held3 (fun w'=>w'.cell? ⟨w.heap.size,0,none⟩=some (.int .i64 1)∧w'.cell? ⟨w.heap.size,1,none⟩=some (.int .i64 W.rows)∧w'.cell? ⟨w.heap.size,2,none⟩=some (.int .i64 W.cols)∧w'.cell? ⟨w.heap.size,3,none⟩=some (.slice a n k)∧w'.cell? ⟨w.heap.size,4,none⟩=some (.int .i64 B.rows)∧w'.cell? ⟨w.heap.size,5,none⟩=some (.int .i64 B.cols)∧w'.cell? ⟨w.heap.size,6,none⟩=some (.slice a' n' k')) (first|(exact ⟨B0.cell 0,B0.cell 1,B0.cell 2,B0.cell 3,B0.cell 4,B0.cell 5,B0.cell 6⟩)|(exact ⟨(B0.drew.keep hb2).cell 0,(B0.drew.keep hb2).cell 1,(B0.drew.keep hb2).cell 2,(B0.drew.keep hb2).cell 3,(B0.drew.keep hb2).cell 4,(B0.drew.keep hb2).cell 5,(B0.drew.keep hb2).cell 6⟩)|(go_keep;done)) (first|(go_at_call 80;go_must (refine (of_1 _).mono ?_);go_must (rintro e w' ⟨rfl,rfl⟩))|(go_at_call 146;go_must (refine (wide_1 1 W B i a a' n n' k k' _).mono ?_);go_must (rintro e w2 ⟨rfl,hb2⟩)))
    all_goals (
     go_wp2
     go_ret2
     exact ⟨rfl,(Below.x2 hb2 hb1)⟩)
 ·exact layWide_bad _ i _ w ⟨_,_,_,_,_,_,_,_,_,_,rfl,x0,x1⟩ fl
theorem layWide_2 (W B:Mat) (i:Int) (v:Value) (w:World) (h:LayAt w v ⟨2,W,B⟩) (hi:-9223372036854775808≤i∧i≤9223372036854775807) :
  Calls Tryz.prog 99 #[v,.int .i64 i] w fun e w'=>e=.returned (.tuple #[.int .i64 (okOr (Lay.wideFault ⟨2,W,B⟩ i) (Lay.wide ⟨2,W,B⟩ i)),errV (Lay.wideFault ⟨2,W,B⟩ i)])∧Below w.heap.size w w':=by
 obtain ⟨hi1,hi2⟩:=hi
 obtain ⟨a,n,k,b,o,a',n',k',b',o',rfl,x0,x1⟩:=h
 dsimp only at x0 x1
 by_cases fl:Lay.fault ⟨2,W,B⟩=0
 ·have hE:errV (Lay.fault ⟨2,W,B⟩)=.nilIface:=errV_nil fl
  have hw:Lay.wideFault ⟨2,W,B⟩ i=if i<0∨12<i then 1 else if Lay.takes ⟨2,W,B⟩ i then 0 else 2:=if_neg (fun h=>h fl)
  by_cases hr:i<0∨12<i
  ·rw [if_pos hr] at hw
   rw [hw,okOr_bad (by decide),errV_err (by decide)]
   clear hw fl
   rcases hr with hr|hr
   ·go_enter Tryz.func99,Tryz.ntmps99
    go_wp2_with fail
    refine (layCheck_any ⟨2,W,B⟩ _ _ ⟨_,_,_,_,_,_,_,_,_,_,rfl,x0.alloc _,x1.alloc _⟩).mono ?_
    rintro e w1 ⟨rfl,hb1⟩
    go_wp2
    go_ret2
    exact ⟨rfl,(Below.x1 hb1)⟩
   ·have hr0:¬ i<0:=by omega
    go_enter Tryz.func99,Tryz.ntmps99
    go_wp2_with fail
    refine (layCheck_any ⟨2,W,B⟩ _ _ ⟨_,_,_,_,_,_,_,_,_,_,rfl,x0.alloc _,x1.alloc _⟩).mono ?_
    rintro e w1 ⟨rfl,hb1⟩
    go_wp2
    go_ret2
    exact ⟨rfl,(Below.x1 hb1)⟩
  ·rw [if_neg hr] at hw
   have hr0:¬ i<0:=by omega
   have hr1:¬ 12<i:=by omega
   have hm:∀ w,(Go.method 353 199 (.agg #[]) "galley/layer.wide").run Tryz.prog w=.ok (156,.agg #[]) w:=m_wide_2
   have hn:∀ w,(Go.nilAhead 353 199 (.agg #[]) "galley/layer.wide").run Tryz.prog w=.ok (some false) w:=n_wide_2
   by_cases ht:Lay.takes ⟨2,W,B⟩ i
   ·rw [if_pos ht] at hw
    rw [hw,okOr_ok rfl,errV_nil rfl]
    have hb:True:=trivial
    clear hw fl ht hr
    go_enter Tryz.func99,Tryz.ntmps99
    go_wp2_with fail
    refine (layCheck_any ⟨2,W,B⟩ _ _ ⟨_,_,_,_,_,_,_,_,_,_,rfl,x0.alloc _,x1.alloc _⟩).mono ?_
    rintro e w1 ⟨rfl,hb1⟩
    have B0:=(Box.new w [.int .i64 2,.int .i64 W.rows,.int .i64 W.cols,.slice a n k,.int .i64 B.rows,.int .i64 B.cols,.slice a' n' k'] 84).keep hb1
    have B0c:=B0.cell
    have B0f:=B0.thawed
    have B0z:=B0.lt
    have B0k:=lt_add B0z
    go_wp2_with fail
    go_region_held3 (fun w'=>w'.cell? ⟨w.heap.size,0,none⟩=some (.int .i64 2)∧w'.cell? ⟨w.heap.size,1,none⟩=some (.int .i64 W.rows)∧w'.cell? ⟨w.heap.size,2,none⟩=some (.int .i64 W.cols)∧w'.cell? ⟨w.heap.size,3,none⟩=some (.slice a n k)∧w'.cell? ⟨w.heap.size,4,none⟩=some (.int .i64 B.rows)∧w'.cell? ⟨w.heap.size,5,none⟩=some (.int .i64 B.cols)∧w'.cell? ⟨w.heap.size,6,none⟩=some (.slice a' n' k')) (first|(exact ⟨B0.cell 0,B0.cell 1,B0.cell 2,B0.cell 3,B0.cell 4,B0.cell 5,B0.cell 6⟩)|(exact ⟨(B0.drew.keep hb2).cell 0,(B0.drew.keep hb2).cell 1,(B0.drew.keep hb2).cell 2,(B0.drew.keep hb2).cell 3,(B0.drew.keep hb2).cell 4,(B0.drew.keep hb2).cell 5,(B0.drew.keep hb2).cell 6⟩)|(go_keep;done)) (first|(go_at_call 80;go_must (refine (of_2 _).mono ?_);go_must (rintro e w' ⟨rfl,rfl⟩))|(go_at_call 156;go_must (refine (wide_s 2 W B i a a' n n' k k' _).mono ?_);go_must (rintro e w2 ⟨rfl,hb2⟩)))
    all_goals (
     go_wp2
     go_ret2
     exact ⟨rfl,(Below.x2 hb2 hb1)⟩)
   ·exact absurd (takes_2 W B i) ht
    skip
 ·exact layWide_bad _ i _ w ⟨_,_,_,_,_,_,_,_,_,_,rfl,x0,x1⟩ fl
theorem layWide_3 (W B:Mat) (i:Int) (v:Value) (w:World) (h:LayAt w v ⟨3,W,B⟩) (hi:-9223372036854775808≤i∧i≤9223372036854775807) :
  Calls Tryz.prog 99 #[v,.int .i64 i] w fun e w'=>e=.returned (.tuple #[.int .i64 (okOr (Lay.wideFault ⟨3,W,B⟩ i) (Lay.wide ⟨3,W,B⟩ i)),errV (Lay.wideFault ⟨3,W,B⟩ i)])∧Below w.heap.size w w':=by
 obtain ⟨hi1,hi2⟩:=hi
 obtain ⟨a,n,k,b,o,a',n',k',b',o',rfl,x0,x1⟩:=h
 dsimp only at x0 x1
 by_cases fl:Lay.fault ⟨3,W,B⟩=0
 ·have hE:errV (Lay.fault ⟨3,W,B⟩)=.nilIface:=errV_nil fl
  have hw:Lay.wideFault ⟨3,W,B⟩ i=if i<0∨12<i then 1 else if Lay.takes ⟨3,W,B⟩ i then 0 else 2:=if_neg (fun h=>h fl)
  by_cases hr:i<0∨12<i
  ·rw [if_pos hr] at hw
   rw [hw,okOr_bad (by decide),errV_err (by decide)]
   clear hw fl
   rcases hr with hr|hr
   ·go_enter Tryz.func99,Tryz.ntmps99
    go_wp2_with fail
    refine (layCheck_any ⟨3,W,B⟩ _ _ ⟨_,_,_,_,_,_,_,_,_,_,rfl,x0.alloc _,x1.alloc _⟩).mono ?_
    rintro e w1 ⟨rfl,hb1⟩
    go_wp2
    go_ret2
    exact ⟨rfl,(Below.x1 hb1)⟩
   ·have hr0:¬ i<0:=by omega
    go_enter Tryz.func99,Tryz.ntmps99
    go_wp2_with fail
    refine (layCheck_any ⟨3,W,B⟩ _ _ ⟨_,_,_,_,_,_,_,_,_,_,rfl,x0.alloc _,x1.alloc _⟩).mono ?_
    rintro e w1 ⟨rfl,hb1⟩
    go_wp2
    go_ret2
    exact ⟨rfl,(Below.x1 hb1)⟩
  ·rw [if_neg hr] at hw
   have hr0:¬ i<0:=by omega
   have hr1:¬ 12<i:=by omega
   have hm:∀ w,(Go.method 353 200 (.agg #[]) "galley/layer.wide").run Tryz.prog w=.ok (156,.agg #[]) w:=m_wide_3
   have hn:∀ w,(Go.nilAhead 353 200 (.agg #[]) "galley/layer.wide").run Tryz.prog w=.ok (some false) w:=n_wide_3
   by_cases ht:Lay.takes ⟨3,W,B⟩ i
   ·rw [if_pos ht] at hw
    rw [hw,okOr_ok rfl,errV_nil rfl]
    have hb:True:=trivial
    clear hw fl ht hr
    go_enter Tryz.func99,Tryz.ntmps99
    go_wp2_with fail
    refine (layCheck_any ⟨3,W,B⟩ _ _ ⟨_,_,_,_,_,_,_,_,_,_,rfl,x0.alloc _,x1.alloc _⟩).mono ?_
    rintro e w1 ⟨rfl,hb1⟩
    have B0:=(Box.new w [.int .i64 3,.int .i64 W.rows,.int .i64 W.cols,.slice a n k,.int .i64 B.rows,.int .i64 B.cols,.slice a' n' k'] 84).keep hb1
    have B0c:=B0.cell
    have B0f:=B0.thawed
    have B0z:=B0.lt
    have B0k:=lt_add B0z
    go_wp2_with fail
    go_region_held3 (fun w'=>w'.cell? ⟨w.heap.size,0,none⟩=some (.int .i64 3)∧w'.cell? ⟨w.heap.size,1,none⟩=some (.int .i64 W.rows)∧w'.cell? ⟨w.heap.size,2,none⟩=some (.int .i64 W.cols)∧w'.cell? ⟨w.heap.size,3,none⟩=some (.slice a n k)∧w'.cell? ⟨w.heap.size,4,none⟩=some (.int .i64 B.rows)∧w'.cell? ⟨w.heap.size,5,none⟩=some (.int .i64 B.cols)∧w'.cell? ⟨w.heap.size,6,none⟩=some (.slice a' n' k')) (first|(exact ⟨B0.cell 0,B0.cell 1,B0.cell 2,B0.cell 3,B0.cell 4,B0.cell 5,B0.cell 6⟩)|(exact ⟨(B0.drew.keep hb2).cell 0,(B0.drew.keep hb2).cell 1,(B0.drew.keep hb2).cell 2,(B0.drew.keep hb2).cell 3,(B0.drew.keep hb2).cell 4,(B0.drew.keep hb2).cell 5,(B0.drew.keep hb2).cell 6⟩)|(go_keep;done)) (first|(go_at_call 80;go_must (refine (of_3 _).mono ?_);go_must (rintro e w' ⟨rfl,rfl⟩))|(go_at_call 156;go_must (refine (wide_s 3 W B i a a' n n' k k' _).mono ?_);go_must (rintro e w2 ⟨rfl,hb2⟩)))
    all_goals (
     go_wp2
     go_ret2
     exact ⟨rfl,(Below.x2 hb2 hb1)⟩)
   ·exact absurd (takes_3 W B i) ht
    skip
 ·exact layWide_bad _ i _ w ⟨_,_,_,_,_,_,_,_,_,_,rfl,x0,x1⟩ fl
theorem layWide_4 (W B:Mat) (i:Int) (v:Value) (w:World) (h:LayAt w v ⟨4,W,B⟩) (hi:-9223372036854775808≤i∧i≤9223372036854775807) :
  Calls Tryz.prog 99 #[v,.int .i64 i] w fun e w'=>e=.returned (.tuple #[.int .i64 (okOr (Lay.wideFault ⟨4,W,B⟩ i) (Lay.wide ⟨4,W,B⟩ i)),errV (Lay.wideFault ⟨4,W,B⟩ i)])∧Below w.heap.size w w':=by
 obtain ⟨hi1,hi2⟩:=hi
 obtain ⟨a,n,k,b,o,a',n',k',b',o',rfl,x0,x1⟩:=h
 dsimp only at x0 x1
 by_cases fl:Lay.fault ⟨4,W,B⟩=0
 ·have hE:errV (Lay.fault ⟨4,W,B⟩)=.nilIface:=errV_nil fl
  have hw:Lay.wideFault ⟨4,W,B⟩ i=if i<0∨12<i then 1 else if Lay.takes ⟨4,W,B⟩ i then 0 else 2:=if_neg (fun h=>h fl)
  by_cases hr:i<0∨12<i
  ·rw [if_pos hr] at hw
   rw [hw,okOr_bad (by decide),errV_err (by decide)]
   clear hw fl
   rcases hr with hr|hr
   ·go_enter Tryz.func99,Tryz.ntmps99
    go_wp2_with fail
    refine (layCheck_any ⟨4,W,B⟩ _ _ ⟨_,_,_,_,_,_,_,_,_,_,rfl,x0.alloc _,x1.alloc _⟩).mono ?_
    rintro e w1 ⟨rfl,hb1⟩
    go_wp2
    go_ret2
    exact ⟨rfl,(Below.x1 hb1)⟩
   ·have hr0:¬ i<0:=by omega
    go_enter Tryz.func99,Tryz.ntmps99
    go_wp2_with fail
    refine (layCheck_any ⟨4,W,B⟩ _ _ ⟨_,_,_,_,_,_,_,_,_,_,rfl,x0.alloc _,x1.alloc _⟩).mono ?_
    rintro e w1 ⟨rfl,hb1⟩
    go_wp2
    go_ret2
    exact ⟨rfl,(Below.x1 hb1)⟩
  ·rw [if_neg hr] at hw
   have hr0:¬ i<0:=by omega
   have hr1:¬ 12<i:=by omega
   have hm:∀ w,(Go.method 353 201 (.agg #[]) "galley/layer.wide").run Tryz.prog w=.ok (170,.agg #[]) w:=m_wide_4
   have hn:∀ w,(Go.nilAhead 353 201 (.agg #[]) "galley/layer.wide").run Tryz.prog w=.ok (some false) w:=n_wide_4
   by_cases ht:Lay.takes ⟨4,W,B⟩ i
   ·rw [if_pos ht] at hw
    rw [hw,okOr_ok rfl,errV_nil rfl]
    have hb:(i == B.cols)=true:=by have:=ht.2 rfl;simp [this]
    clear hw fl ht hr
    go_enter Tryz.func99,Tryz.ntmps99
    go_wp2_with fail
    refine (layCheck_any ⟨4,W,B⟩ _ _ ⟨_,_,_,_,_,_,_,_,_,_,rfl,x0.alloc _,x1.alloc _⟩).mono ?_
    rintro e w1 ⟨rfl,hb1⟩
    have B0:=(Box.new w [.int .i64 4,.int .i64 W.rows,.int .i64 W.cols,.slice a n k,.int .i64 B.rows,.int .i64 B.cols,.slice a' n' k'] 84).keep hb1
    have B0c:=B0.cell
    have B0f:=B0.thawed
    have B0z:=B0.lt
    have B0k:=lt_add B0z
    go_wp2_with fail
    go_region_held3 (fun w'=>w'.cell? ⟨w.heap.size,0,none⟩=some (.int .i64 4)∧w'.cell? ⟨w.heap.size,1,none⟩=some (.int .i64 W.rows)∧w'.cell? ⟨w.heap.size,2,none⟩=some (.int .i64 W.cols)∧w'.cell? ⟨w.heap.size,3,none⟩=some (.slice a n k)∧w'.cell? ⟨w.heap.size,4,none⟩=some (.int .i64 B.rows)∧w'.cell? ⟨w.heap.size,5,none⟩=some (.int .i64 B.cols)∧w'.cell? ⟨w.heap.size,6,none⟩=some (.slice a' n' k')) (first|(exact ⟨B0.cell 0,B0.cell 1,B0.cell 2,B0.cell 3,B0.cell 4,B0.cell 5,B0.cell 6⟩)|(exact ⟨(B0.drew.keep hb2).cell 0,(B0.drew.keep hb2).cell 1,(B0.drew.keep hb2).cell 2,(B0.drew.keep hb2).cell 3,(B0.drew.keep hb2).cell 4,(B0.drew.keep hb2).cell 5,(B0.drew.keep hb2).cell 6⟩)|(go_keep;done)) (first|(go_at_call 80;go_must (refine (of_4 _).mono ?_);go_must (rintro e w' ⟨rfl,rfl⟩))|(go_at_call 170;go_must (refine (wide_4 4 W B i a a' n n' k k' _).mono ?_);go_must (rintro e w2 ⟨rfl,hb2⟩)))
    all_goals (
     go_wp2
     go_ret2
     exact ⟨rfl,(Below.x2 hb2 hb1)⟩)
   ·skip
    rw [if_neg ht] at hw
    rw [hw,okOr_bad (by decide),errV_err (by decide)]
    have hb:(i == B.cols)=false:=by simp;intro h;exact ht ⟨fun h'=>absurd h' (by simp),fun _=>h⟩
    clear hw fl ht hr
    go_enter Tryz.func99,Tryz.ntmps99
    go_wp2_with fail
    refine (layCheck_any ⟨4,W,B⟩ _ _ ⟨_,_,_,_,_,_,_,_,_,_,rfl,x0.alloc _,x1.alloc _⟩).mono ?_
    rintro e w1 ⟨rfl,hb1⟩
    have B0:=(Box.new w [.int .i64 4,.int .i64 W.rows,.int .i64 W.cols,.slice a n k,.int .i64 B.rows,.int .i64 B.cols,.slice a' n' k'] 84).keep hb1
    have B0c:=B0.cell
    have B0f:=B0.thawed
    have B0z:=B0.lt
    have B0k:=lt_add B0z
    go_wp2_with fail
    go_region_held3 (fun w'=>w'.cell? ⟨w.heap.size,0,none⟩=some (.int .i64 4)∧w'.cell? ⟨w.heap.size,1,none⟩=some (.int .i64 W.rows)∧w'.cell? ⟨w.heap.size,2,none⟩=some (.int .i64 W.cols)∧w'.cell? ⟨w.heap.size,3,none⟩=some (.slice a n k)∧w'.cell? ⟨w.heap.size,4,none⟩=some (.int .i64 B.rows)∧w'.cell? ⟨w.heap.size,5,none⟩=some (.int .i64 B.cols)∧w'.cell? ⟨w.heap.size,6,none⟩=some (.slice a' n' k')) (first|(exact ⟨B0.cell 0,B0.cell 1,B0.cell 2,B0.cell 3,B0.cell 4,B0.cell 5,B0.cell 6⟩)|(exact ⟨(B0.drew.keep hb2).cell 0,(B0.drew.keep hb2).cell 1,(B0.drew.keep hb2).cell 2,(B0.drew.keep hb2).cell 3,(B0.drew.keep hb2).cell 4,(B0.drew.keep hb2).cell 5,(B0.drew.keep hb2).cell 6⟩)|(go_keep;done)) (first|(go_at_call 80;go_must (refine (of_4 _).mono ?_);go_must (rintro e w' ⟨rfl,rfl⟩))|(go_at_call 170;go_must (refine (wide_4 4 W B i a a' n n' k k' _).mono ?_);go_must (rintro e w2 ⟨rfl,hb2⟩)))
    all_goals (
     go_wp2
     go_ret2
     exact ⟨rfl,(Below.x2 hb2 hb1)⟩)
 ·exact layWide_bad _ i _ w ⟨_,_,_,_,_,_,_,_,_,_,rfl,x0,x1⟩ fl
theorem layWide_any (l:Lay) (i:Int) (v:Value) (w:World) (h:LayAt w v l) (hi:-9223372036854775808≤i∧i≤9223372036854775807) :
  Calls Tryz.prog 99 #[v,.int .i64 i] w fun e w'=>e=.returned (.tuple #[.int .i64 (okOr (l.wideFault i) (l.wide i)),errV (l.wideFault i)])∧Below w.heap.size w w':=by
 obtain ⟨kd,W,B⟩:=l
 by_cases h1:kd=1
 ·subst h1;exact layWide_1 W B i v w h hi
 ·by_cases h2:kd=2
  ·subst h2;exact layWide_2 W B i v w h hi
  ·by_cases h3:kd=3
   ·subst h3;exact layWide_3 W B i v w h hi
   ·by_cases h4:kd=4
    ·subst h4;exact layWide_4 W B i v w h hi
    ·have hf:Lay.fault ⟨kd,W,B⟩=1:=by
      unfold Lay.fault
      rw [if_pos (by dsimp only;omega)]
     exact layWide_bad ⟨kd,W,B⟩ i v w h (by rw [hf];decide)
end Go.Proofs.YtchngeagnlngaaaGreatDoor
end
