/- Texts joined: Mat6. -/
import Derived.Test.YtchngeagnlngaaaJ11
import Derived.Test.YtchngeagnlngaaaJ03
import Derived.BigQuiet
section
set_option linter.unusedVariables false
set_option linter.unusedSimpArgs false
namespace Go.Proofs.Ytchngeagnlngaaa
open Go.RowKit Gal
attribute [local go_sem ↓] Go.wp_at_zero Go.wp_at_succ
theorem cf_turn (vs : Array Value) (W : World) : (callFunc 142 vs).run Try.prog W = .ok (.enter 142 vs) W := by kernel_rfl
set_option maxRecDepth 100000 in
set_option maxHeartbeats 1000000 in
theorem matTurn_new (ma : Mat) (va : Value) (w : World) (ha : MatAt w va ma) (hf : turnFault ma = 0) :
  Calls Try.prog 138 #[va] w fun e w' => ∃ v, e = .returned (.tuple #[v, .nilIface]) ∧ MatNew w.heap.size w' v (matTurn ma) ∧ Below w.heap.size w w' := by
 obtain ⟨fa, h12⟩ := turnFault_ok hf
 obtain ⟨R, K, eR, eK, hR, hK, hla, hea⟩ := matFault_ok fa
 obtain ⟨mar, mac, xs⟩ := ma
 dsimp only at eR eK hla h12
 subst eR eK
 clear hea
 obtain ⟨a0, n0, k0, b0, o0, rfl, h0⟩ := ha
 obtain rfl : R * K = n0 := by rw [← hla]; exact h0.len
 dsimp only at h0
 have hE : errV (matFault R K xs) = .nilIface := errV_nil fa
 clear hf fa hla
 go_enter Try.func138, Try.ntmps138
 go_wp2_with fail
 refine (matCheck_any _ _ _ _ _ _ _ xs _ (h0.alloc _ |>.alloc _)).mono ?_
 rintro e w1 ⟨rfl, hb1⟩
 have B2 := ((Box.new' _ w.heap.size _ _ (by simp)).alloc _).keep hb1
 have B2c := B2.cell
 have B2f := B2.thawed
 have B2z := B2.lt
 have B2k := lt_add B2z
 have B4 := (Box.new' _ (w.heap.size + 1) _ _ (by simp)).keep hb1
 have B4c := B4.cell
 have B4f := B4.thawed
 have B4z := B4.lt
 have B4k := lt_add B4z
 have z1 := hb1.size
 simp at z1
 go_wp2_with fail
 have x0 := (h0.alloc _ |>.alloc _).keep hb1
 refine (filled_any K R (by omega) hR 142 #[.pointer (some ⟨w.heap.size, 0, none⟩)] (fun i j => ix xs (j * K + i)) _ cf_turn ?_).mono ?_
 ·intro i j hi hj W hW
  exact turnCell_any _ R K _ _ _ _ xs hR hK W (B2.keep hW) (x0.keep hW) i j hi hj
 ·rintro e w2 ⟨a2, k2, b2, rfl, hn2, hi2, hb2⟩
  have C4 := B4.keep hb2
  have C4c := C4.cell
  have C4f := C4.thawed
  have C4z := C4.lt
  have C4k := lt_add C4z
  go_wp2
  exact bodyPost_ret (v := .tuple #[.agg #[.int .i64 K, .int .i64 R, .slice a2 (K * R) k2], .nilIface]) (by simp [results, Try.results138, go_sem, C4c]) rfl ⟨_, rfl, MatNew.mk (fun h => by have := hn2 h; omega) (hi2.set3 (fun h => by have := hn2 h; omega) _ _ _), (Below.x2 hb2 hb1)⟩
set_option maxRecDepth 100000 in
set_option maxHeartbeats 1000000 in
theorem clone_any (a : Option Addr) (n cap b off : Nat) (xs : List Int) (w : World) (h : IntsAt w a n cap b off xs) (hn : n * 8 ≤ 140737488355328) :
  Calls Try.prog 102 #[.slice a n cap] w fun e w' => ∃ a' cap' b', e = .returned (.slice a' n cap') ∧ (0 < n → w.heap.size ≤ b') ∧ IntsAt w' a' n cap' b' 0 xs ∧ Below w.heap.size w w' := by
 obtain ⟨i0, hi, hz0, hz1, hz2⟩ := info_parts info_int
 have hnil := fun W => Lib.run_eql_slice_nil (P := Try.prog) W 26 3 a n cap 0 0 Try.underlying26
 cases a with
 | none =>
  have h0 : n = 0 := by
   rcases Nat.eq_zero_or_pos n with h0 | h0
   ·exact h0
   ·have := h.ptr h0; cases this
  subst h0
  go_enter Try.func102, Try.ntmps102
  go_wp2
  go_ret
  exact ⟨none, 0, b, rfl, fun h0 => absurd h0 (Nat.lt_irrefl _), ⟨h.len, Nat.le_refl _, Nat.zero_le _, fun h0 => absurd h0 (Nat.lt_irrefl _), fun h0 => absurd h0 (Nat.lt_irrefl _), fun i hi => absurd hi (Nat.not_lt_zero _)⟩, Below.refl _ _⟩
 | some A =>
  have hl := h.len
  have hmx := h.max
  have H := Lib.hid h
  clear h
  have HL := Lib.hid hl
  clear hl
  go_enter Try.func102, Try.ntmps102
  go_wp2_with (at_builtin; refine wpList_append_own _ rfl (.tmp 5) (.tmp 6) 26 rfl w.heap.size 3 i0 (.int .i64 0) 1 8 Try.underlying26 hi hz0 hz1 hz2 rfl (by decide) (.slice (some ⟨w.heap.size, 0, none⟩) 0 0) 0 [] rfl ?c1 A n cap (xs.map (Value.int .i64)) rfl ?c2 ?c3 ?c4 ?c5 ?c6 ?c7 ?_)
  case c1 => exact own_made w _ _ _ _ #[] 0 rfl (Nat.le_refl _) (Nat.zero_le _) rfl
  case c2 => rw [List.length_map, HL.out, Nat.mul_one]
  case c3 => exact (H.out.alloc _).news
  case c4 => exact ints_one xs
  case c5 => omega
  case c6 => omega
  case c7 => simp
  intro v' w' hown hgrow _
  go_wp2
  go_ret
  obtain ⟨a', c', b', rfl, hbb, hin⟩ := IntsAt.of_own hown
  exact ⟨a', c', b', rfl, hbb, hin, Below.grown (((Below.refl _ w)).al _) hgrow (by simp) (fun k hk => by simp [Value.ownBlock] at hk; omega)⟩
set_option maxRecDepth 100000 in
set_option maxHeartbeats 1000000 in
theorem matRows_new (ma : Mat) (va : Value) (lo hi : Int) (w : World) (ha : MatAt w va ma) (hf : rowsFault ma lo hi = 0) :
  Calls Try.prog 105 #[va, .int .i64 lo, .int .i64 hi] w fun e w' => ∃ v, e = .returned (.tuple #[v, .nilIface]) ∧ MatNew w.heap.size w' v (matRows ma lo hi) ∧ Below w.heap.size w w' := by
 obtain ⟨fa, q0, q1, q2⟩ := rowsFault_ok hf
 obtain ⟨R, K, eR, eK, hR, hK, hla, hea⟩ := matFault_ok fa
 obtain ⟨mar, mac, xs⟩ := ma
 obtain ⟨L, rfl⟩ := Int.eq_ofNat_of_zero_le q0
 obtain ⟨H, rfl⟩ := Int.eq_ofNat_of_zero_le (show 0 ≤ hi by omega)
 dsimp only at eR eK hla q2
 subst eR eK
 clear hea
 obtain ⟨a0, n0, k0, b0, o0, rfl, h0⟩ := ha
 obtain rfl : R * K = n0 := by rw [← hla]; exact h0.len
 dsimp only at h0
 have hE : errV (matFault R K xs) = .nilIface := errV_nil fa
 have hLK : L * K ≤ H * K := Nat.mul_le_mul_right K (by omega)
 have hHK : H * K ≤ R * K := Nat.mul_le_mul_right K (by omega)
 have hRK : R * K ≤ 288 := Nat.mul_le_mul hR hK
 have e1 : (L : Int) * K ≤ 288 := by rw [← Int.natCast_mul]; omega
 have e2 : (0 : Int) ≤ (L : Int) * K := by rw [← Int.natCast_mul]; omega
 have e3 : (H : Int) * K ≤ 288 := by rw [← Int.natCast_mul]; omega
 have e4 : (0 : Int) ≤ (H : Int) * K := by rw [← Int.natCast_mul]; omega
 have w1 : IntKind.i64.wrap ((L : Int) * K) = (L : Int) * K := IntWalk.i64_in _ (by omega)
 have w2 : IntKind.i64.wrap ((H : Int) * K) = (H : Int) * K := IntWalk.i64_in _ (by omega)
 have w3 : IntKind.i64.wrap ((H : Int) - L) = (H : Int) - L := IntWalk.i64_in _ (by omega)
 obtain ⟨sa, hsl, hsi⟩ := run_slice_lohi w 26 3 Try.underlying26 (fun W => by simp [go_sem]) h0 (L * K) (H * K) ((L : Int) * K) ((H : Int) * K) (by rw [Int.natCast_mul]) (by rw [Int.natCast_mul]) hLK hHK
 have hlen : (H * K - L * K) * 8 ≤ 140737488355328 := by omega
 clear hf fa hla
 go_enter Try.func105, Try.ntmps105
 go_wp2_with fail
 refine (matCheck_any _ _ _ _ _ _ _ xs _ (h0.alloc _ |>.alloc _)).mono ?_
 rintro e W1 ⟨rfl, hb1⟩
 have B2 := ((Box.new' _ w.heap.size _ _ (by simp)).alloc _).keep hb1
 have B2c := B2.cell
 have B2f := B2.thawed
 have B2z := B2.lt
 have B2k := lt_add B2z
 have B4 := (Box.new' _ (w.heap.size + 1) _ _ (by simp)).keep hb1
 have B4c := B4.cell
 have B4f := B4.thawed
 have B4z := B4.lt
 have B4k := lt_add B4z
 have z1 := hb1.size
 simp at z1
 have x0 := (hsi.alloc _ |>.alloc _).keep hb1
 have x1 : IntsAt W1.drew sa (H * K - L * K) (k0 - L * K) b0 (o0 + L * K) (piece xs (L * K) (H * K)) := x0.drewN 1
 go_wp2_with fail
 go_region_held3 (fun w' => w'.cell? ⟨w.heap.size, 0, none⟩ = some (.int .i64 R) ∧ w'.cell? ⟨w.heap.size, 1, none⟩ = some (.int .i64 K) ∧ w'.cell? ⟨w.heap.size, 2, none⟩ = some (.slice a0 (R * K) k0)) (first | (exact ⟨B2.cell 0, B2.cell 1, B2.cell 2⟩) | (exact ⟨(B2.drew.keep hb2).cell 0, (B2.drew.keep hb2).cell 1, (B2.drew.keep hb2).cell 2⟩) | (go_keep; done)) (first | (go_at_call 102; go_must (refine (clone_any sa (H * K - L * K) (k0 - L * K) b0 (o0 + L * K) (piece xs (L * K) (H * K)) _ ?_ hlen).mono ?_); go_must (exact x1); go_must (rintro e W2 ⟨a2, k2, b2, rfl, hn2, hi2, hb2⟩); go_must (have C4 := B4.drew.keep hb2); have C4c := C4.cell; have C4f := C4.thawed))
 all_goals (
  go_wp2
  exact bodyPost_ret (v := .tuple #[.agg #[.int .i64 ((H : Int) - L), .int .i64 K, .slice a2 (H * K - L * K) k2], .nilIface]) (by simp [results, Try.results105, go_sem, C4c]) rfl ⟨_, rfl, MatNew.mk (fun h => by have := hn2 h; simp at this; omega) (hi2.set3 (fun h => by have := hn2 h; simp at this; omega) _ _ _), (Below.x2 hb2 hb1)⟩)
end Go.Proofs.Ytchngeagnlngaaa
end
