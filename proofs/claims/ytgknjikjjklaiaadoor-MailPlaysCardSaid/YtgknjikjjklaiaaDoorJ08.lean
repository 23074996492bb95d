/- Texts joined: Mail2. -/
import Derived.Test.YtgknjikjjklaiaaDoorJ04
import Derived.Test.YtgknjikjjklaiaaDoorProg
import Derived.Test.YtgknjikjjklaiaaDoorJ02
import Derived.Test.YtgknjikjjklaiaaDoorJ05
import Derived.WalkKit
import Derived.WalkLawsBesides
import Derived.WalkSpells
import Derived.Test.YtgknjikjjklaiaaDoorJ07
import Derived.Conc.LoneSelectN
import Derived.Lib.Hide
import Derived.BigQuiet
import Derived.Deep.QuietTactic
import Derived.Deep.RegionHeld3
section
set_option linter.unusedVariables false
set_option linter.unusedSimpArgs false
set_option linter.unusedSectionVars false
set_option maxRecDepth 100000
namespace Go.Proofs.YtgknjikjjklaiaaDoor
open Go.RowKit Gal Go.Conc
set_option maxHeartbeats 4000000
theorem info_msgc : ∃ i, Tryd.prog.info? 26 = some i ∧ i.bytes = 56 := by
 have h : (Tryd.prog.info? 26).map (·.bytes) = some 56 := by kernel_rfl
 obtain ⟨i, hi, hb⟩ := Option.map_eq_some_iff.1 h
 exact ⟨i, hi, hb⟩
theorem mk_box (n : Nat) (hn : n ≤ 16) (w : World) : (Instr.makeChan 82 (.int .i64 (n : Int))).run Tryd.prog w = .ok (.chan (some w.heap.size)) (w.alloc (.chan n #[] false 0 0 false)) := by
 obtain ⟨i, hi, hb⟩ := info_msgc
 simpa using run_makeChan (P := Tryd.prog) (w := w) Tryd.underlying82 hi .i64 n (by omega) (by rw [hb]; omega)
theorem mailNew_bad (n : Int) (w : World) (h : n < 1 ∨ 16 < n) :
  Calls Tryd.prog 14 #[.int .i64 n] w fun e w' => e = .returned (.tuple #[.pointer none, errV 1]) ∧ w' = w := by
 by_cases h1 : n < 1
 ·have e1 : (n < 1) = True := eq_true h1
  go_enter Tryd.func14, Tryd.ntmps14
  go_wp2
  go_ret2
  exact ⟨rfl, rfl⟩
 ·have e1 : (n < 1) = False := eq_false h1
  have e2 : (n > 16) = True := eq_true (by omega)
  go_enter Tryd.func14, Tryd.ntmps14
  go_wp2
  go_ret2
  exact ⟨rfl, rfl⟩
theorem mailNew_ok (n : Nat) (w : World) (h1 : 1 ≤ n) (h2 : n ≤ 16) :
  Calls Tryd.prog 14 #[.int .i64 (n : Int)] w fun e w' => e = .returned (.tuple #[.pointer (some ⟨w.heap.size + 1, 0, none⟩), .nilIface]) ∧ Below w.heap.size w w' ∧ QAt w' (w.heap.size + 1) w.heap.size n #[] false 0 0 ∧ w'.heap.size = w.heap.size + 1 + 1 := by
 have e1 : ((n : Int) < 1) = False := eq_false (by omega)
 have e2 : ((n : Int) > 16) = False := eq_false (by omega)
 have hmk := mk_box n h2
 go_enter Tryd.func14, Tryd.ntmps14
 go_wp2
 go_ret2
 exact ⟨rfl, (((Below.refl _ w).al _).al _), ⟨Box.new' _ _ [.chan (some w.heap.size), .bool false] _ (by simp), heap_alloc_old (heap_alloc_new w _)⟩, by simp⟩
theorem boxLen_any (p c cap : Nat) (buf : Array Value) (cl : Bool) (s r : Nat) (w : World) (h : QAt w p c cap buf cl s r) :
  Calls Tryd.prog 19 #[.pointer (some ⟨p, 0, none⟩)] w fun e w' => e = .returned (.int .i64 buf.size) ∧ w' = w := by
 have c0 := h.box.cell 0
 have hlen := fun ty => run_len_chan (P := Tryd.prog) 82 ty Tryd.underlying82 h.ch
 clear h
 go_enter Tryd.func19, Tryd.ntmps19
 go_wp2
 go_ret
 exact ⟨rfl, rfl⟩
theorem boxClose_shut (p c cap : Nat) (buf : Array Value) (s r : Nat) (w : World) (h : QAt w p c cap buf true s r) :
  Calls Tryd.prog 18 #[.pointer (some ⟨p, 0, none⟩)] w fun e w' => e = .returned (.tuple #[]) ∧ w' = w := by
 have c1 := h.box.cell 1
 go_enter Tryd.func18, Tryd.ntmps18
 go_wp2
 go_end0
 exact ⟨rfl, rfl⟩
theorem boxClose_open (p c cap : Nat) (buf : Array Value) (s r : Nat) (w : World) (h : QAt w p c cap buf false s r) :
  Calls Tryd.prog 18 #[.pointer (some ⟨p, 0, none⟩)] w fun e w' => e = .returned (.tuple #[]) ∧ Far (fun b => b = c ∨ b = p) w w' ∧ QAt w' p c cap buf true s r := by
 have hne := h.ne
 have c0 := h.box.cell 0
 have c1 := h.box.cell 1
 have f1 := h.box.thawed 1
 have bz := h.box.set 1 (.bool true)
 have z0 := bz.cell 0
 have hcl := fun ats ty => run_close_open (P := Tryd.prog) (w := w.setCell ⟨p, 1, none⟩ (.bool true)) ats ty (heap_st_old h.ch hne)
 go_enter Tryd.func18, Tryd.ntmps18
 go_wp2
 go_end0
 have hf : Far (fun b => b = c ∨ b = p) w ((w.setCell ⟨p, 1, none⟩ (.bool true)).setChan c cap buf true s r false) := ((Far.refl (fun b => b = c ∨ b = p) w).st (fun _ => Or.inr rfl) _).setChan (fun _ => Or.inl rfl) _ _ _ _ _ _
 have hq : QAt ((w.setCell ⟨p, 1, none⟩ (.bool true)).setChan c cap buf true s r false) p c cap buf true s r :=
  ⟨bz.farS ((Far.refl (fun b => b = c) _).setChan (S := fun b => b = c) (fun _ => rfl) _ _ _ _ _ _) hne, heap_setChan _ _ _ _ _ _ _ _ (heap_lt (heap_st_old h.ch hne))⟩
 exact ⟨rfl, hf, hq⟩
theorem box5_all {w : World} {b : Nat} {T : TypeId} {v0 v1 v2 v3 v4 : Value} (h : Box w b [v0, v1, v2, v3, v4] T) : w.cell? ⟨b, 0, none⟩ = some v0 ∧ w.cell? ⟨b, 1, none⟩ = some v1 ∧ w.cell? ⟨b, 2, none⟩ = some v2 ∧ w.cell? ⟨b, 3, none⟩ = some v3 ∧ w.cell? ⟨b, 4, none⟩ = some v4 :=
 ⟨h.cell 0, h.cell 1, h.cell 2, h.cell 3, h.cell 4⟩
section
variable (p c cap : Nat) (buf : Array Value) (cl : Bool) (s r : Nat) (w : World)
theorem boxTake_any (h : QAt w p c cap buf cl s r) (x : Value) (er : Value) (buf' : Array Value) (r' : Nat) (k m R C : Int) (a : Option Addr) (n q : Nat) (hx : x = .agg #[.int .i64 k, .int .i64 m, .int .i64 R, .int .i64 C, .slice a n q])
  (hq : ∀ W, QAt W p c cap buf cl s r → Calls Tryd.prog 40 #[.pointer (some ⟨p, 0, none⟩)] W (PutEnd W p c cap buf' cl s r' (.tuple #[x, er]))) :
  Calls Tryd.prog 16 #[.pointer (some ⟨p, 0, none⟩)] w (PutEnd w p c cap buf' cl s r' (.tuple #[x, er])) := by
 subst hx
 have hcz := heap_lt h.ch
 have hcn : ¬ w.heap.size = c := by omega
 have hbq := h.keep (Below.x0 : Below w.heap.size w (w.alloc (.cells #[.int .i64 0, .int .i64 0, .int .i64 0, .int .i64 0, .slice none 0 0] 26)))
 clear h
 -- the queue gives #[.int .i64 k, .int .i64 m, .int .i64 R, .int .i64 C, .slice a n q] and the error er (hq _ hbq: its contract)
 go_enter Tryd.func16, Tryd.ntmps16
 go_wp2_with fail
 refine (hq _ hbq).mono ?_
 rintro e w1 ⟨rfl, hf1, hc1⟩
 have hal : Far (fun b => b = c) w (w.alloc (.cells #[.int .i64 0, .int .i64 0, .int .i64 0, .int .i64 0, .slice none 0 0] 26)) := (Far.refl _ w).al _
 have hB : Box w1 w.heap.size [.int .i64 0, .int .i64 0, .int .i64 0, .int .i64 0, .slice none 0 0] 26 := (Box.new w [.int .i64 0, .int .i64 0, .int .i64 0, .int .i64 0, .slice none 0 0] 26).farS hf1 hcn
 have d0 := hB.cell 0
 have d1 := hB.cell 1
 have d2 := hB.cell 2
 have d3 := hB.cell 3
 have d4 := hB.cell 4
 have f0 := hB.thawed 0
 have f1 := hB.thawed 1
 have f2 := hB.thawed 2
 have f3 := hB.thawed 3
 have f4 := hB.thawed 4
 have hz := hB.lt
 have hx : ∀ {P : Prop}, w.heap.size < w.heap.size → P := fun h => absurd h (Nat.lt_irrefl _)
 have bz := ((((hB.set 0 (.int .i64 k)).set 1 (.int .i64 m)).set 2 (.int .i64 R)).set 3 (.int .i64 C)).set 4 (.slice a n q)
 have z0 := bz.cell 0
 have z1 := bz.cell 1
 have z2 := bz.cell 2
 have z3 := bz.cell 3
 have z4 := bz.cell 4
 have HF := Lib.hid ((((((hal.trans hf1).st (a := ⟨w.heap.size, 0, none⟩) hx (.int .i64 k)).st (a := ⟨w.heap.size, 1, none⟩) hx (.int .i64 m)).st (a := ⟨w.heap.size, 2, none⟩) hx (.int .i64 R)).st (a := ⟨w.heap.size, 3, none⟩) hx (.int .i64 C)).st (a := ⟨w.heap.size, 4, none⟩) hx (.slice a n q))
 have HC := Lib.hid (heap_st_old (v := .slice a n q) (p := ⟨w.heap.size, 4, none⟩) (heap_st_old (v := .int .i64 C) (p := ⟨w.heap.size, 3, none⟩) (heap_st_old (v := .int .i64 R) (p := ⟨w.heap.size, 2, none⟩) (heap_st_old (v := .int .i64 m) (p := ⟨w.heap.size, 1, none⟩) (heap_st_old (v := .int .i64 k) (p := ⟨w.heap.size, 0, none⟩) hc1 hcn) hcn) hcn) hcn) hcn)
 clear bz hx hal hf1 hc1 hB
 go_wp2
 refine bodyPost_ret (v := .tuple #[.agg #[.int .i64 k, .int .i64 m, .int .i64 R, .int .i64 C, .slice a n q], er]) (by simp [results, Tryd.results16, go_sem, z0, z1, z2, z3, z4]) rfl ⟨rfl, HF.out, HC.out⟩
def pushed (cp : Bool) (buf : Array Value) (v : Value) : Array Value := if cp then buf.push v else buf
def BoxPut (w : World) (c cap : Nat) (buf : Array Value) (cl : Bool) (s' r : Nat) (er : Value) (cp : Bool) (k m R C : Int) (n : Nat) (xs : List Int) (e : Ending) (w' : World) : Prop :=
 e = .returned er ∧ Far (fun b => b = c) w w' ∧ ∃ a' q' b', (0 < n → w.heap.size < b') ∧ IntsAt w' a' n q' b' 0 xs ∧ w'.heap[c]? = some (.chan cap (pushed cp buf (.agg #[.int .i64 k, .int .i64 m, .int .i64 R, .int .i64 C, .slice a' n q'])) cl s' r false)
theorem boxPut_any (h : QAt w p c cap buf cl s r) (er : Value) (cp : Bool) (s' : Nat) (k m R C : Int) (a : Option Addr) (n q b o : Nat) (xs : List Int) (hn : n * 8 ≤ 140737488355328) (hi : IntsAt w a n q b o xs)
  (hq : ∀ (W : World) (v : Array Value) (a' : Option Addr) (q' : Nat), QAt W p c cap buf cl s r → v = #[.int .i64 k, .int .i64 m, .int .i64 R, .int .i64 C, .slice a' n q'] → Calls Tryd.prog 39 #[.pointer (some ⟨p, 0, none⟩), .agg v] W (PutEnd W p c cap (pushed cp buf (.agg v)) cl s' r er)) :
  Calls Tryd.prog 15 #[.pointer (some ⟨p, 0, none⟩), .agg #[.int .i64 k, .int .i64 m, .int .i64 R, .int .i64 C, .slice a n q]] w (BoxPut w c cap buf cl s' r er cp k m R C n xs) := by
 have hcz := heap_lt h.ch
 have hcn : ¬ w.heap.size = c := by omega
 go_enter Tryd.func15, Tryd.ntmps15
 go_wp2_with fail
 refine (cloned_any a n q b o xs _ (hi.alloc _) hn).mono ?_
 rintro e w1 ⟨a1, q1, b1, rfl, hbb, y1, hb1⟩
 have hal : Below w.heap.size w (w.alloc (.cells #[.int .i64 k, .int .i64 m, .int .i64 R, .int .i64 C, .slice a n q] 26)) := Below.x0
 have hB : Box w1 w.heap.size [.int .i64 k, .int .i64 m, .int .i64 R, .int .i64 C, .slice a n q] 26 := (Box.new w [.int .i64 k, .int .i64 m, .int .i64 R, .int .i64 C, .slice a n q] 26).keep hb1
 have hq1 := h.keep (hal.trans (hb1.mono hal.size))
 have d4 := hB.cell 4
 have f4 := hB.thawed 4
 have hz := hB.lt
 obtain ⟨w2, hw2, B2, hf2⟩ : ∃ w2, w1.setCell ⟨w.heap.size, 4, none⟩ (.slice a1 n q1) = w2 ∧ Box w2 w.heap.size [.int .i64 k, .int .i64 m, .int .i64 R, .int .i64 C, .slice a1 n q1] 26 ∧ Far (fun b => b = w.heap.size) w1 w2 := ⟨_, rfl, hB.set 4 _, (Far.refl (fun b => b = w.heap.size) w1).st (fun _ => rfl) _⟩
 have hbz : 0 < n → w.heap.size < b1 := fun h => by have := hbb h; simp at this; omega
 have y2 := y1.farS hf2 (fun h e => by have := hbz h; omega)
 have q2 : QAt w2 p c cap buf cl s r := ⟨hq1.box.farS hf2 (by have := h.box.lt; omega), by rw [← hw2]; exact heap_st_old hq1.ch hcn⟩
 have HF2 : Hid (Far (fun b => b = c) w w2) := Lib.hid (by
  rw [← hw2]
  exact ((Far.of_below (hal.trans (hb1.mono hal.size))).st (fun hh => absurd hh (by dsimp only; omega)) _))
 clear hB y1 hq1 hbb
 go_wp2_with fail
 try rw [hw2]
 go_region_held3 (fun w' => w'.cell? ⟨w.heap.size, 0, none⟩ = some (.int .i64 k) ∧ w'.cell? ⟨w.heap.size, 1, none⟩ = some (.int .i64 m) ∧ w'.cell? ⟨w.heap.size, 2, none⟩ = some (.int .i64 R) ∧ w'.cell? ⟨w.heap.size, 3, none⟩ = some (.int .i64 C) ∧ w'.cell? ⟨w.heap.size, 4, none⟩ = some (.slice a1 n q1))
  (first | (have hf3' := hf3; exact box5_all (T := 26) (B2.farS ((Far.of_below (Below.x0 : Below w2.heap.size w2 _)).trans hf3') hcn)) | exact box5_all (T := 26) (by repeat (first | (with_reducible first | exact B2 | refine Box.alloc ?_ _ | refine Box.drewN ?_ _ | refine Box.drew ?_ | refine Box.fx ?_ _) | exact B2)))
  ((go_at_call 39; go_must (refine (hq _ _ a1 q1 (q2.keep Below.x0) rfl).mono ?_); go_must (rintro e w3 ⟨rfl, hf3, hc3⟩)))
 all_goals (
  go_wp2
  go_ret
  exact ⟨rfl, HF2.out.trans ((Far.of_below (Below.x0 : Below w2.heap.size w2 _)).trans hf3), a1, q1, b1, hbz, y2.farS ((Far.of_below (Below.x0 : Below w2.heap.size w2 _)).trans hf3) (fun h e => by have := hbz h; omega), hc3⟩)
end
end Go.Proofs.YtgknjikjjklaiaaDoor
end
