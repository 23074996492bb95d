/- Texts joined: Mat6, Mat8. -/
import Derived.Test.YtgknjikjjklaiaaJ10
import Derived.Test.YtgknjikjjklaiaaJ04
import Derived.BigQuiet
import Derived.Test.YtgknjikjjklaiaaJ11
import Derived.Test.YtgknjikjjklaiaaJ01
section
set_option linter.unusedVariables false
set_option linter.unusedSimpArgs false
namespace Go.Proofs.Ytgknjikjjklaiaa
open Go.RowKit Gal
attribute [local go_sem ↓] Go.wp_at_zero Go.wp_at_succ
theorem cf_turn (vs : Array Value) (W : World) : (callFunc 81 vs).run Try.prog W = .ok (.enter 81 vs) W := by kernel_rfl
set_option maxRecDepth 100000 in
set_option maxHeartbeats 1000000 in
theorem matTurn_new (ma : Mat) (va : Value) (w : World) (ha : MatAt w va ma) (hf : turnFault ma = 0) :
  Calls Try.prog 77 #[va] w fun e w' => ∃ v, e = .returned (.tuple #[v, .nilIface]) ∧ MatNew w.heap.size w' v (matTurn ma) ∧ Below w.heap.size w w' := by
 obtain ⟨fa, h12⟩ := turnFault_ok hf
 obtain ⟨R, K, eR, eK, hR, hK, hla, hea⟩ := matFault_ok fa
 obtain ⟨mar, mac, xs⟩ := ma
 dsimp only at eR eK hla h12
 subst eR eK
 clear hea
 obtain ⟨a0, n0, k0, b0, o0, rfl, h0⟩ := ha
 obtain rfl : R * K = n0 := by rw [← hla]; exact h0.len
 dsimp only at h0
 have hE : errV (matFault R K xs) = .nilIface := errV_nil fa
 clear hf fa hla
 go_enter Try.func77, Try.ntmps77
 go_wp2_with fail
 refine (matCheck_any _ _ _ _ _ _ _ xs _ (h0.alloc _ |>.alloc _)).mono ?_
 rintro e w1 ⟨rfl, hb1⟩
 have B2 := ((Box.new' _ w.heap.size _ _ (by simp)).alloc _).keep hb1
 have B2c := B2.cell
 have B2f := B2.thawed
 have B2z := B2.lt
 have B2k := lt_add B2z
 have B4 := (Box.new' _ (w.heap.size + 1) _ _ (by simp)).keep hb1
 have B4c := B4.cell
 have B4f := B4.thawed
 have B4z := B4.lt
 have B4k := lt_add B4z
 have z1 := hb1.size
 simp at z1
 go_wp2_with fail
 have x0 := (h0.alloc _ |>.alloc _).keep hb1
 refine (filled_any K R (by omega) hR 81 #[.pointer (some ⟨w.heap.size, 0, none⟩)] (fun i j => ix xs (j * K + i)) _ cf_turn ?_).mono ?_
 ·intro i j hi hj W hW
  exact turnCell_any _ R K _ _ _ _ xs hR hK W (B2.keep hW) (x0.keep hW) i j hi hj
 ·rintro e w2 ⟨a2, k2, b2, rfl, hn2, hi2, hb2⟩
  have C4 := B4.keep hb2
  have C4c := C4.cell
  have C4f := C4.thawed
  have C4z := C4.lt
  have C4k := lt_add C4z
  go_wp2
  exact bodyPost_ret (v := .tuple #[.agg #[.int .i64 K, .int .i64 R, .slice a2 (K * R) k2], .nilIface]) (by simp [results, Try.results77, go_sem, C4c]) rfl ⟨_, rfl, MatNew.mk (fun h => by have := hn2 h; omega) (hi2.set3 (fun h => by have := hn2 h; omega) _ _ _), (Below.x2 hb2 hb1)⟩
set_option maxRecDepth 100000 in
set_option maxHeartbeats 1000000 in
theorem clone_any (a : Option Addr) (n cap b off : Nat) (xs : List Int) (w : World) (h : IntsAt w a n cap b off xs) (hn : n * 8 ≤ 140737488355328) :
  Calls Try.prog 37 #[.slice a n cap] w fun e w' => ∃ a' cap' b', e = .returned (.slice a' n cap') ∧ (0 < n → w.heap.size ≤ b') ∧ IntsAt w' a' n cap' b' 0 xs ∧ Below w.heap.size w w' := by
 obtain ⟨i0, hi, hz0, hz1, hz2⟩ := info_parts info_int
 have hnil := fun W => Lib.run_eql_slice_nil (P := Try.prog) W 23 3 a n cap 0 0 Try.underlying23
 cases a with
 | none =>
  have h0 : n = 0 := by
   rcases Nat.eq_zero_or_pos n with h0 | h0
   ·exact h0
   ·have := h.ptr h0; cases this
  subst h0
  go_enter Try.func37, Try.ntmps37
  go_wp2
  go_ret
  exact ⟨none, 0, b, rfl, fun h0 => absurd h0 (Nat.lt_irrefl _), ⟨h.len, Nat.le_refl _, Nat.zero_le _, fun h0 => absurd h0 (Nat.lt_irrefl _), fun h0 => absurd h0 (Nat.lt_irrefl _), fun i hi => absurd hi (Nat.not_lt_zero _)⟩, Below.refl _ _⟩
 | some A =>
  have hl := h.len
  have hmx := h.max
  have H := Lib.hid h
  clear h
  have HL := Lib.hid hl
  clear hl
  go_enter Try.func37, Try.ntmps37
  go_wp2_with (at_builtin; refine wpList_append_own _ rfl (.tmp 5) (.tmp 6) 23 rfl w.heap.size 3 i0 (.int .i64 0) 1 8 Try.underlying23 hi hz0 hz1 hz2 rfl (by decide) (.slice (some ⟨w.heap.size, 0, none⟩) 0 0) 0 [] rfl ?c1 A n cap (xs.map (Value.int .i64)) rfl ?c2 ?c3 ?c4 ?c5 ?c6 ?c7 ?_)
  case c1 => exact own_made w _ _ _ _ #[] 0 rfl (Nat.le_refl _) (Nat.zero_le _) rfl
  case c2 => rw [List.length_map, HL.out, Nat.mul_one]
  case c3 => exact (H.out.alloc _).news
  case c4 => exact ints_one xs
  case c5 => omega
  case c6 => omega
  case c7 => simp
  intro v' w' hown hgrow _
  go_wp2
  go_ret
  obtain ⟨a', c', b', rfl, hbb, hin⟩ := IntsAt.of_own hown
  exact ⟨a', c', b', rfl, hbb, hin, Below.grown (((Below.refl _ w)).al _) hgrow (by simp) (fun k hk => by simp [Value.ownBlock] at hk; omega)⟩
end Go.Proofs.Ytgknjikjjklaiaa
end
section
set_option linter.unusedVariables false
set_option linter.unusedSimpArgs false
namespace Go.Proofs.Ytgknjikjjklaiaa
open Go.RowKit Gal
attribute [local go_sem ↓] Go.wp_at_zero Go.wp_at_succ
theorem none_new (base : Nat) (w : World) : MatNew base w (.agg #[.int .i64 0, .int .i64 0, .slice none 0 0]) Mat.none :=
 ⟨none, 0, 0, 0, 0, rfl, fun h => absurd h (Nat.lt_irrefl _), rfl, Nat.le_refl _, Nat.zero_le _, fun h => absurd h (Nat.lt_irrefl _), fun h => absurd h (Nat.lt_irrefl _), fun i hi => absurd hi (Nat.not_lt_zero _)⟩
def orNone (f : Int) (m : Mat) : Mat := if f = 0 then m else Mat.none
theorem orNone_ok {f : Int} {m : Mat} (h : f = 0) : orNone f m = m := if_pos h
theorem orNone_bad {f : Int} {m : Mat} (h : f ≠ 0) : orNone f m = Mat.none := if_neg h
theorem cf_sums (vs : Array Value) (W : World) : (callFunc 83 vs).run Try.prog W = .ok (.enter 83 vs) W := by kernel_rfl
set_option maxRecDepth 100000 in
set_option maxHeartbeats 1000000 in
theorem sumsCell_any (p : Nat) (ar ac : Nat) (aa : Option Addr) (acap ab ao : Nat) (xs : List Int) (har : ar ≤ 24) (hac : ac ≤ 12) (w : World)
  (hp : Box w p [.int .i64 ar, .int .i64 ac, .slice aa (ar * ac : Nat) acap] 25) (hx : IntsAt w aa (ar * ac) acap ab ao xs) (i j : Nat) (hj : j < ac) :
  Calls Try.prog 83 #[.int .i64 i, .int .i64 j, .pointer (some ⟨p, 0, none⟩)] w fun e w' => e = .returned (.int .i64 (sumTo (fun i => ix xs (i * ac + j)) ar)) ∧ ∃ n, w' = w.drewN n := by
 have p0 := hp.cell 0
 have p1 := hp.cell 1
 have p2 := hp.cell 2
 go_enter Try.func83, Try.ntmps83
 go_wp2
 go_loopw [6, 10] (fun s c wr => ∃ k n : Nat, k ≤ ar ∧ c = .int .i64 k ∧ s = .int .i64 (sumTo (fun i => ix xs (i * ac + j)) k) ∧ wr = w.drewN n) (fun _ c _ => ar - (intOf c).toNat)
 case atStart => exact ⟨0, 0, Nat.zero_le _, rfl, rfl, rfl⟩
 case round =>
  obtain ⟨k, n, hk, rfl, rfl, rfl⟩ := hrel
  by_cases hlt : k < ar
  ·have hia := cell_lt hlt hj
   obtain rfl := hx.ptr (by omega)
   have ca := hx.cell _ hia
   have e1 : (k : Int) * ac ≤ 288 := by have := Nat.mul_le_mul (show k ≤ 24 by omega) hac; rw [← Int.natCast_mul]; omega
   have e3 : (0 : Int) ≤ (k : Int) * ac := by rw [← Int.natCast_mul]; omega
   have w1 : IntKind.i64.wrap ((k : Int) * ac) = (k : Int) * ac := IntWalk.i64_in _ (by omega)
   have w3 : IntKind.i64.wrap ((k : Int) * ac + j) = (k : Int) * ac + j := IntWalk.i64_in _ (by omega)
   have x1 : (k : Int) * ac + j < (ar : Int) * ac := by rw [← Int.natCast_mul, ← Int.natCast_mul]; omega
   have x3 : 0 ≤ (k : Int) * ac + j := by omega
   have x5 : ((k : Int) * ac + j).toNat = k * ac + j := by rw [← Int.natCast_mul]; omega
   go_wp2_with (go_at_call 30; refine (add_any _ _ _).mono ?_; rintro e w' ⟨rfl, rfl⟩)
   go_roundw
   case rel => exact ⟨k + 1, _, by omega, by go_num, rfl, rfl⟩
   case measure => simp [intOf]; omega
  ·obtain rfl : k = ar := by omega
   go_wp2
   go_ret
   exact ⟨rfl, _, rfl⟩
set_option maxRecDepth 100000 in
set_option maxHeartbeats 1000000 in
theorem matSums_any (ma : Mat) (va : Value) (w : World) (ha : MatAt w va ma) :
  Calls Try.prog 79 #[va] w fun e w' => ∃ v, e = .returned (.tuple #[v, errV ma.fault]) ∧ MatNew w.heap.size w' v (orNone ma.fault (matSums ma)) ∧ Below w.heap.size w w' := by
 by_cases hf : ma.fault = 0
 ·rw [orNone_ok hf, errV_nil hf]
  obtain ⟨R, K, eR, eK, hR, hK, hla, hea⟩ := matFault_ok hf
  obtain ⟨mar, mac, xs⟩ := ma
  dsimp only at eR eK hla
  subst eR eK
  unfold matSums
  simp only [Int.toNat_natCast]
  clear hea
  obtain ⟨a0, n0, k0, b0, o0, rfl, h0⟩ := ha
  obtain rfl : R * K = n0 := by rw [← hla]; exact h0.len
  dsimp only at h0
  have hE : errV (matFault R K xs) = .nilIface := errV_nil hf
  clear hf hla
  go_enter Try.func79, Try.ntmps79
  go_wp2_with fail
  refine (matCheck_any _ _ _ _ _ _ _ xs _ (h0.alloc _ |>.alloc _)).mono ?_
  rintro e w1 ⟨rfl, hb1⟩
  have B2 := ((Box.new' _ w.heap.size _ _ (by simp)).alloc _).keep hb1
  have B2c := B2.cell
  have B2f := B2.thawed
  have B2z := B2.lt
  have B2k := lt_add B2z
  have B4 := (Box.new' _ (w.heap.size + 1) _ _ (by simp)).keep hb1
  have B4c := B4.cell
  have B4f := B4.thawed
  have B4z := B4.lt
  have B4k := lt_add B4z
  have z1 := hb1.size
  simp at z1
  go_wp2_with fail
  have x0 := (h0.alloc _ |>.alloc _).keep hb1
  refine (filled_any 1 K (by omega) (by omega) 83 #[.pointer (some ⟨w.heap.size, 0, none⟩)] (fun _ j => sumTo (fun i => ix xs (i * K + j)) R) _ cf_sums ?_).mono ?_
  ·intro i j hi hj W hW
   exact sumsCell_any _ R K _ _ _ _ xs hR hK W (B2.keep hW) (x0.keep hW) i j hj
  ·rintro e w2 ⟨a2, k2, b2, rfl, hn2, hi2, hb2⟩
   have C4 := B4.keep hb2
   have C4c := C4.cell
   have C4f := C4.thawed
   have C4z := C4.lt
   have C4k := lt_add C4z
   go_wp2
   refine bodyPost_ret (v := .tuple #[.agg #[.int .i64 1, .int .i64 K, .slice a2 (1 * K : Nat) k2], .nilIface]) (by simp [results, Try.results79, go_sem, C4c]) rfl ⟨_, rfl, MatNew.mk (fun h => by have := hn2 h; omega) (hi2.set3 (fun h => by have := hn2 h; omega) _ _ _), (Below.x2 hb2 hb1)⟩
 ·rw [orNone_bad hf, errV_err hf]
  obtain ⟨a0, n0, k0, b0, o0, rfl, h0⟩ := ha
  have hE : errV (matFault ma.rows ma.cols ma.cells) = .iface 56 (.int .i64 ma.fault) := errV_err hf
  clear hf
  go_enter Try.func79, Try.ntmps79
  go_wp2_with fail
  refine (matCheck_any _ _ _ _ _ _ _ ma.cells _ (h0.alloc _ |>.alloc _)).mono ?_
  rintro e w1 ⟨rfl, hb1⟩
  have B4 := (Box.new' _ (w.heap.size + 1) _ _ (by simp)).keep hb1
  have B4c := B4.cell
  have B4f := B4.thawed
  have B4z := B4.lt
  have B4k := lt_add B4z
  go_wp2
  exact bodyPost_ret (v := .tuple #[.agg #[.int .i64 0, .int .i64 0, .slice none 0 0], .iface 56 (.int .i64 ma.fault)]) (by simp [results, Try.results79, go_sem, B4c]) rfl ⟨_, rfl, none_new _ _, (Below.x1 hb1)⟩
end Go.Proofs.Ytgknjikjjklaiaa
end
