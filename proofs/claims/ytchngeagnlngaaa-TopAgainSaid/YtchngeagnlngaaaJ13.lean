/- Texts joined: Mat8. -/
import Derived.Test.YtchngeagnlngaaaJ11
import Derived.Test.YtchngeagnlngaaaJ12
import Derived.Test.YtchngeagnlngaaaJ03
import Derived.Test.YtchngeagnlngaaaJ02
section
set_option linter.unusedVariables false
set_option linter.unusedSimpArgs false
namespace Go.Proofs.Ytchngeagnlngaaa
open Go.RowKit Gal
attribute [local go_sem ↓] Go.wp_at_zero Go.wp_at_succ
theorem none_new (base : Nat) (w : World) : MatNew base w (.agg #[.int .i64 0, .int .i64 0, .slice none 0 0]) Mat.none :=
 ⟨none, 0, 0, 0, 0, rfl, fun h => absurd h (Nat.lt_irrefl _), rfl, Nat.le_refl _, Nat.zero_le _, fun h => absurd h (Nat.lt_irrefl _), fun h => absurd h (Nat.lt_irrefl _), fun i hi => absurd hi (Nat.not_lt_zero _)⟩
def orNone (f : Int) (m : Mat) : Mat := if f = 0 then m else Mat.none
theorem orNone_ok {f : Int} {m : Mat} (h : f = 0) : orNone f m = m := if_pos h
theorem orNone_bad {f : Int} {m : Mat} (h : f ≠ 0) : orNone f m = Mat.none := if_neg h
theorem cf_add (vs : Array Value) (W : World) : (callFunc 111 vs).run Try.prog W = .ok (.enter 111 vs) W := by kernel_rfl
theorem addCell_any (p q : Nat) (ar ac : Nat) (aa ba : Option Addr) (acap bcap ab ao bb bo : Nat) (xs ys : List Int) (har : ar ≤ 24) (hac : ac ≤ 12) (w : World)
  (hp : Box w p [.int .i64 ar, .int .i64 ac, .slice aa (ar * ac : Nat) acap] 28) (hq : Box w q [.int .i64 ar, .int .i64 ac, .slice ba (ar * ac : Nat) bcap] 28) (hx : IntsAt w aa (ar * ac) acap ab ao xs) (hy : IntsAt w ba (ar * ac) bcap bb bo ys) (i j : Nat) (hi : i < ar) (hj : j < ac) :
  Calls Try.prog 111 #[.int .i64 i, .int .i64 j, .pointer (some ⟨p, 0, none⟩), .pointer (some ⟨q, 0, none⟩)] w fun e w' => e = .returned (.int .i64 (add (ix xs (i * ac + j)) (ix ys (i * ac + j)))) ∧ ∃ n, w' = w.drewN n := by
 have p1 := hp.cell 1
 have p2 := hp.cell 2
 have q2 := hq.cell 2
 have hji := cell_lt hi hj
 obtain rfl := hx.ptr (by omega)
 obtain rfl := hy.ptr (by omega)
 have ca := hx.cell _ hji
 have cb := hy.cell _ hji
 have e1 : (i : Int) * ac ≤ 288 := by have := Nat.mul_le_mul (show i ≤ 24 by omega) hac; rw [← Int.natCast_mul]; omega
 have e3 : (0 : Int) ≤ (i : Int) * ac := by rw [← Int.natCast_mul]; omega
 have w1 : IntKind.i64.wrap ((i : Int) * ac) = (i : Int) * ac := IntWalk.i64_in _ (by omega)
 have w3 : IntKind.i64.wrap ((i : Int) * ac + j) = (i : Int) * ac + j := IntWalk.i64_in _ (by omega)
 have x1 : (i : Int) * ac + j < (ar : Int) * ac := by rw [← Int.natCast_mul, ← Int.natCast_mul]; omega
 have x3 : 0 ≤ (i : Int) * ac + j := by omega
 have x5 : ((i : Int) * ac + j).toNat = i * ac + j := by rw [← Int.natCast_mul]; omega
 go_enter Try.func111, Try.ntmps111
 go_wp2_with fail
 go_quiet ((go_at_call 31; first | exact quiet0 (add_any _ _) | exact quiet1 (add_any _ _)))
 go_wp2
 go_ret
 exact ⟨rfl, _, rfl⟩
theorem cf_sums (vs : Array Value) (W : World) : (callFunc 144 vs).run Try.prog W = .ok (.enter 144 vs) W := by kernel_rfl
set_option maxRecDepth 100000 in
set_option maxHeartbeats 1000000 in
theorem sumsCell_any (p : Nat) (ar ac : Nat) (aa : Option Addr) (acap ab ao : Nat) (xs : List Int) (har : ar ≤ 24) (hac : ac ≤ 12) (w : World)
  (hp : Box w p [.int .i64 ar, .int .i64 ac, .slice aa (ar * ac : Nat) acap] 28) (hx : IntsAt w aa (ar * ac) acap ab ao xs) (i j : Nat) (hj : j < ac) :
  Calls Try.prog 144 #[.int .i64 i, .int .i64 j, .pointer (some ⟨p, 0, none⟩)] w fun e w' => e = .returned (.int .i64 (sumTo (fun i => ix xs (i * ac + j)) ar)) ∧ ∃ n, w' = w.drewN n := by
 have p0 := hp.cell 0
 have p1 := hp.cell 1
 have p2 := hp.cell 2
 go_enter Try.func144, Try.ntmps144
 go_wp2
 go_loopw [6, 10] (fun s c wr => ∃ k n : Nat, k ≤ ar ∧ c = .int .i64 k ∧ s = .int .i64 (sumTo (fun i => ix xs (i * ac + j)) k) ∧ wr = w.drewN n) (fun _ c _ => ar - (intOf c).toNat)
 case atStart => exact ⟨0, 0, Nat.zero_le _, rfl, rfl, rfl⟩
 case round =>
  obtain ⟨k, n, hk, rfl, rfl, rfl⟩ := hrel
  by_cases hlt : k < ar
  ·have hia := cell_lt hlt hj
   obtain rfl := hx.ptr (by omega)
   have ca := hx.cell _ hia
   have e1 : (k : Int) * ac ≤ 288 := by have := Nat.mul_le_mul (show k ≤ 24 by omega) hac; rw [← Int.natCast_mul]; omega
   have e3 : (0 : Int) ≤ (k : Int) * ac := by rw [← Int.natCast_mul]; omega
   have w1 : IntKind.i64.wrap ((k : Int) * ac) = (k : Int) * ac := IntWalk.i64_in _ (by omega)
   have w3 : IntKind.i64.wrap ((k : Int) * ac + j) = (k : Int) * ac + j := IntWalk.i64_in _ (by omega)
   have x1 : (k : Int) * ac + j < (ar : Int) * ac := by rw [← Int.natCast_mul, ← Int.natCast_mul]; omega
   have x3 : 0 ≤ (k : Int) * ac + j := by omega
   have x5 : ((k : Int) * ac + j).toNat = k * ac + j := by rw [← Int.natCast_mul]; omega
   go_wp2_with (go_at_call 31; refine (add_any _ _ _).mono ?_; rintro e w' ⟨rfl, rfl⟩)
   go_roundw
   case rel => exact ⟨k + 1, _, by omega, by go_num, rfl, rfl⟩
   case measure => simp [intOf]; omega
  ·obtain rfl : k = ar := by omega
   go_wp2
   go_ret
   exact ⟨rfl, _, rfl⟩
def addOf (a b : Mat) : Mat := ⟨a.rows, a.cols, grid (fun i j => add (ix a.cells (i * a.cols.toNat + j)) (ix b.cells (i * a.cols.toNat + j))) a.cols.toNat a.rows.toNat⟩
theorem addOf_is {R K : Nat} {xs ys : List Int} (hl : xs.length = R * K) : addOf ⟨R, K, xs⟩ ⟨R, K, ys⟩ = matAdd ⟨R, K, xs⟩ ⟨R, K, ys⟩ := by
 unfold addOf matAdd
 simp only [Int.toNat_natCast]
 rw [grid_upto, hl]
 congr 1
 refine upto_congr fun p hp => ?_
 rw [place_is]
set_option maxRecDepth 100000 in
set_option maxHeartbeats 1000000 in
theorem matAdd_any (ma mb : Mat) (va vb : Value) (w : World) (ha : MatAt w va ma) (hb : MatAt w vb mb) :
  Calls Try.prog 68 #[va, vb] w fun e w' => ∃ v, e = .returned (.tuple #[v, errV (lossFault ma mb)]) ∧ MatNew w.heap.size w' v (orNone (lossFault ma mb) (matAdd ma mb)) ∧ Below w.heap.size w w' := by
 by_cases hf : lossFault ma mb = 0
 ·rw [orNone_ok hf, errV_nil hf]
  obtain ⟨fa, fb, er, ec⟩ := lossFault_ok hf
  have hc : firstFault [ma, mb] = 0 := firstFault_two.2 ⟨fa, fb⟩
  obtain ⟨R, K, eR, eK, hR, hK, hla, hea⟩ := matFault_ok fa
  obtain ⟨mar, mac, xs⟩ := ma
  obtain ⟨mbr, mbc, ys⟩ := mb
  dsimp only at eR eK hla er ec
  subst er ec eR eK
  have hlb : ys.length = R * K := by
   obtain ⟨R', K', e1, e2, _, _, h, _⟩ := matFault_ok fb
   dsimp only at e1 e2
   obtain rfl : R = R' := by omega
   obtain rfl : K = K' := by omega
   exact h
  rw [← addOf_is hla]
  unfold addOf
  simp only [Int.toNat_natCast]
  clear hea
  obtain ⟨a0, n0, k0, b0, o0, rfl, h0⟩ := ha
  obtain ⟨a1, n1, k1, b1, o1, rfl, h1⟩ := hb
  obtain rfl : R * K = n0 := by rw [← hla]; exact h0.len
  obtain rfl : R * K = n1 := by rw [← hlb]; exact h1.len
  dsimp only at h0 h1
  have hE : errV (firstFault [⟨R, K, xs⟩, ⟨R, K, ys⟩]) = .nilIface := errV_nil hc
  have q1 : ((R : Int) != R) = false := by simp
  have q2 : ((K : Int) != K) = false := by simp
  clear hf hc fa fb hla hlb
  go_enter Try.func68, Try.ntmps68
  go_wp2_with fail
  refine (check_any _ _ _ _ _ [⟨R, K, xs⟩, ⟨R, K, ys⟩] _ (mats2 (Box.new' _ _ _ _ (by simp)) (h0.alloc _ |>.alloc _ |>.alloc _ |>.alloc _) (h1.alloc _ |>.alloc _ |>.alloc _ |>.alloc _))).mono ?_
  rintro e w1 ⟨rfl, hb1⟩
  have B2 := (((Box.new' _ w.heap.size _ _ (by simp)).alloc _).alloc _ |>.alloc _).keep hb1
  have B2c := B2.cell
  have B2f := B2.thawed
  have B2z := B2.lt
  have B2k := lt_add B2z
  have B3 := ((Box.new' _ (w.heap.size + 1) _ _ (by simp)).alloc _ |>.alloc _).keep hb1
  have B3c := B3.cell
  have B3f := B3.thawed
  have B3z := B3.lt
  have B3k := lt_add B3z
  have B4 := ((Box.new' _ (w.heap.size + 1 + 1) _ _ (by simp)).alloc _).keep hb1
  have B4c := B4.cell
  have B4f := B4.thawed
  have B4z := B4.lt
  have B4k := lt_add B4z
  have z1 := hb1.size
  simp at z1
  go_wp2_with fail
  have x0 := (h0.alloc _ |>.alloc _ |>.alloc _ |>.alloc _).keep hb1
  have x1 := (h1.alloc _ |>.alloc _ |>.alloc _ |>.alloc _).keep hb1
  refine (filled_any R K hR (by omega) 111 #[.pointer (some ⟨w.heap.size, 0, none⟩), .pointer (some ⟨w.heap.size + 1, 0, none⟩)] (fun i j => add (ix xs (i * K + j)) (ix ys (i * K + j))) _ cf_add ?_).mono ?_
  ·intro i j hi hj W hW
   exact addCell_any _ _ R K _ _ _ _ _ _ _ _ xs ys hR hK W (B2.keep hW) (B3.keep hW) (x0.keep hW) (x1.keep hW) i j hi hj
  ·rintro e w2 ⟨a2, k2, b2, rfl, hn2, hi2, hb2⟩
   have C4 := B4.keep hb2
   have C4c := C4.cell
   have C4f := C4.thawed
   have C4z := C4.lt
   have C4k := lt_add C4z
   go_wp2
   refine bodyPost_ret (v := .tuple #[.agg #[.int .i64 R, .int .i64 K, .slice a2 (R * K : Nat) k2], .nilIface]) (by simp [results, Try.results68, go_sem, C4c]) rfl ⟨_, rfl, MatNew.mk (fun h => by have := hn2 h; omega) (hi2.set3 (fun h => by have := hn2 h; omega) _ _ _), (Below.x2 hb2 hb1)⟩
 ·rw [orNone_bad hf]
  obtain ⟨a0, n0, k0, b0, o0, rfl, h0⟩ := ha
  obtain ⟨a1, n1, k1, b1, o1, rfl, h1⟩ := hb
  by_cases hc : firstFault [ma, mb] = 0
  ·have hE : errV (firstFault [ma, mb]) = .nilIface := errV_nil hc
   have hor : ((ma.rows != mb.rows) = true ∨ (ma.rows != mb.rows) = false ∧ (ma.cols != mb.cols) = true) ∧ lossFault ma mb = 2 := by
    unfold lossFault at *
    rw [if_pos hc] at *
    by_cases h : ma.rows = mb.rows
    ·by_cases h' : ma.cols = mb.cols
     ·rw [if_pos ⟨h, h'⟩] at hf; omega
     ·exact ⟨Or.inr ⟨by simp [h], by simp [h']⟩, if_neg (fun h2 => h' h2.2)⟩
    ·exact ⟨Or.inl (by simp [h]), if_neg (fun h2 => h h2.1)⟩
   obtain ⟨hor, hm⟩ := hor
   rw [hm, errV_err (by omega)]
   clear hm hc hf
   rcases hor with hr | ⟨hr, hc⟩
   all_goals
    go_enter Try.func68, Try.ntmps68
    go_wp2_with fail
    refine (check_any _ _ _ _ _ [ma, mb] _ (mats2 (Box.new' _ _ _ _ (by simp)) (h0.alloc _ |>.alloc _ |>.alloc _ |>.alloc _) (h1.alloc _ |>.alloc _ |>.alloc _ |>.alloc _))).mono ?_
    rintro e w1 ⟨rfl, hb1⟩
    have B2 := (((Box.new' _ w.heap.size _ _ (by simp)).alloc _).alloc _ |>.alloc _).keep hb1
    have B2c := B2.cell
    have B2f := B2.thawed
    have B2z := B2.lt
    have B2k := lt_add B2z
    have B3 := ((Box.new' _ (w.heap.size + 1) _ _ (by simp)).alloc _ |>.alloc _).keep hb1
    have B3c := B3.cell
    have B3f := B3.thawed
    have B3z := B3.lt
    have B3k := lt_add B3z
    have B4 := ((Box.new' _ (w.heap.size + 1 + 1) _ _ (by simp)).alloc _).keep hb1
    have B4c := B4.cell
    have B4f := B4.thawed
    have B4z := B4.lt
    have B4k := lt_add B4z
    go_wp2
    exact bodyPost_ret (v := .tuple #[.agg #[.int .i64 0, .int .i64 0, .slice none 0 0], .iface 62 (.int .i64 2)]) (by simp [results, Try.results68, go_sem, B4c]) rfl ⟨_, rfl, none_new _ _, (Below.x1 hb1)⟩
  ·have hE : errV (firstFault [ma, mb]) = .iface 62 (.int .i64 (firstFault [ma, mb])) := errV_err hc
   have hm : lossFault ma mb = firstFault [ma, mb] := by unfold lossFault; rw [if_neg hc]
   rw [hm, hE]
   clear hm hc hf
   go_enter Try.func68, Try.ntmps68
   go_wp2_with fail
   refine (check_any _ _ _ _ _ [ma, mb] _ (mats2 (Box.new' _ _ _ _ (by simp)) (h0.alloc _ |>.alloc _ |>.alloc _ |>.alloc _) (h1.alloc _ |>.alloc _ |>.alloc _ |>.alloc _))).mono ?_
   rintro e w1 ⟨rfl, hb1⟩
   have B4 := ((Box.new' _ (w.heap.size + 1 + 1) _ _ (by simp)).alloc _).keep hb1
   have B4c := B4.cell
   have B4f := B4.thawed
   have B4z := B4.lt
   have B4k := lt_add B4z
   go_wp2
   exact bodyPost_ret (v := .tuple #[.agg #[.int .i64 0, .int .i64 0, .slice none 0 0], .iface 62 (.int .i64 (firstFault [ma, mb]))]) (by simp [results, Try.results68, go_sem, B4c]) rfl ⟨_, rfl, none_new _ _, (Below.x1 hb1)⟩
set_option maxRecDepth 100000 in
set_option maxHeartbeats 1000000 in
theorem matSums_any (ma : Mat) (va : Value) (w : World) (ha : MatAt w va ma) :
  Calls Try.prog 140 #[va] w fun e w' => ∃ v, e = .returned (.tuple #[v, errV ma.fault]) ∧ MatNew w.heap.size w' v (orNone ma.fault (matSums ma)) ∧ Below w.heap.size w w' := by
 by_cases hf : ma.fault = 0
 ·rw [orNone_ok hf, errV_nil hf]
  obtain ⟨R, K, eR, eK, hR, hK, hla, hea⟩ := matFault_ok hf
  obtain ⟨mar, mac, xs⟩ := ma
  dsimp only at eR eK hla
  subst eR eK
  unfold matSums
  simp only [Int.toNat_natCast]
  clear hea
  obtain ⟨a0, n0, k0, b0, o0, rfl, h0⟩ := ha
  obtain rfl : R * K = n0 := by rw [← hla]; exact h0.len
  dsimp only at h0
  have hE : errV (matFault R K xs) = .nilIface := errV_nil hf
  clear hf hla
  go_enter Try.func140, Try.ntmps140
  go_wp2_with fail
  refine (matCheck_any _ _ _ _ _ _ _ xs _ (h0.alloc _ |>.alloc _)).mono ?_
  rintro e w1 ⟨rfl, hb1⟩
  have B2 := ((Box.new' _ w.heap.size _ _ (by simp)).alloc _).keep hb1
  have B2c := B2.cell
  have B2f := B2.thawed
  have B2z := B2.lt
  have B2k := lt_add B2z
  have B4 := (Box.new' _ (w.heap.size + 1) _ _ (by simp)).keep hb1
  have B4c := B4.cell
  have B4f := B4.thawed
  have B4z := B4.lt
  have B4k := lt_add B4z
  have z1 := hb1.size
  simp at z1
  go_wp2_with fail
  have x0 := (h0.alloc _ |>.alloc _).keep hb1
  refine (filled_any 1 K (by omega) (by omega) 144 #[.pointer (some ⟨w.heap.size, 0, none⟩)] (fun _ j => sumTo (fun i => ix xs (i * K + j)) R) _ cf_sums ?_).mono ?_
  ·intro i j hi hj W hW
   exact sumsCell_any _ R K _ _ _ _ xs hR hK W (B2.keep hW) (x0.keep hW) i j hj
  ·rintro e w2 ⟨a2, k2, b2, rfl, hn2, hi2, hb2⟩
   have C4 := B4.keep hb2
   have C4c := C4.cell
   have C4f := C4.thawed
   have C4z := C4.lt
   have C4k := lt_add C4z
   go_wp2
   refine bodyPost_ret (v := .tuple #[.agg #[.int .i64 1, .int .i64 K, .slice a2 (1 * K : Nat) k2], .nilIface]) (by simp [results, Try.results140, go_sem, C4c]) rfl ⟨_, rfl, MatNew.mk (fun h => by have := hn2 h; omega) (hi2.set3 (fun h => by have := hn2 h; omega) _ _ _), (Below.x2 hb2 hb1)⟩
 ·rw [orNone_bad hf, errV_err hf]
  obtain ⟨a0, n0, k0, b0, o0, rfl, h0⟩ := ha
  have hE : errV (matFault ma.rows ma.cols ma.cells) = .iface 62 (.int .i64 ma.fault) := errV_err hf
  clear hf
  go_enter Try.func140, Try.ntmps140
  go_wp2_with fail
  refine (matCheck_any _ _ _ _ _ _ _ ma.cells _ (h0.alloc _ |>.alloc _)).mono ?_
  rintro e w1 ⟨rfl, hb1⟩
  have B4 := (Box.new' _ (w.heap.size + 1) _ _ (by simp)).keep hb1
  have B4c := B4.cell
  have B4f := B4.thawed
  have B4z := B4.lt
  have B4k := lt_add B4z
  go_wp2
  exact bodyPost_ret (v := .tuple #[.agg #[.int .i64 0, .int .i64 0, .slice none 0 0], .iface 62 (.int .i64 ma.fault)]) (by simp [results, Try.results140, go_sem, B4c]) rfl ⟨_, rfl, none_new _ _, (Below.x1 hb1)⟩
end Go.Proofs.Ytchngeagnlngaaa
end
