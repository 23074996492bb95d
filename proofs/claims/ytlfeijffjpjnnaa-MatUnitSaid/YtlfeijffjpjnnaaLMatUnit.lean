/- MatUnit: any matrix that is one, multiplied by the matrix of ones on its diagonal, is itself: the law returns true, and the input reads as it did. No condition. -/
import Derived.Test.YtlfeijffjpjnnaaRows
import Derived.Test.YtlfeijffjpjnnaaBlank
import Derived.Test.YtlfeijffjpjnnaaOpen
set_option linter.unusedVariables false
set_option linter.unusedSimpArgs false
namespace Go.Proofs.Ytlfeijffjpjnnaa.lawMatUnit
open Go.ChangeShapes Go.WideShapes Go.ChangeAt Go.RowKit Gal

set_option maxRecDepth 100000 in
set_option maxHeartbeats 1000000 in
theorem walk (m : Mat) (v : Value) (w : World) (h : MatAt w v m) : Calls Try.prog 5 #[v] w fun e w' => e = .returned (.bool true) ∧ Below w.heap.size w w' := by
  obtain ⟨r, c, xs⟩ := m
  obtain ⟨a0, n0, k0, b0, o0, rfl, h0⟩ := h
  dsimp only at h0
  by_cases hc : matFault r c xs = 0
  · have hE : errV (matFault r c xs) = .nilIface := errV_nil hc
    obtain ⟨R, K, rfl, rfl, hR, hK, hla, hea⟩ := matFault_ok hc
    obtain rfl : R * K = n0 := by rw [← hla]; exact h0.len
    have hkk : K * K ≤ 144 := Nat.mul_le_mul hK hK
    have HC := Lib.hid hc
    clear hc
    go_enter Try.func5, Try.ntmps5
    go_wp2_with fail
    refine (matFact_any _).mono ?_
    rintro e w1 ⟨rfl, hb1⟩
    have B1 := (Box.new w [.int .i64 R, .int .i64 K, .slice a0 (R * K) k0] 31).keep hb1
    have B1c := B1.cell
    have B1f := B1.thawed
    have B1z := B1.lt
    have B1k := lt_add B1z
    have x1 := (h0.alloc _).keep hb1
    go_wp2_with fail
    refine (matCheck_any _ _ _ _ _ _ _ xs _ x1).mono ?_
    rintro e w2 ⟨rfl, hb2⟩
    clear B1c B1f
    have B2 := B1.keep hb2
    have B2c := B2.cell
    have B2f := B2.thawed
    have B2z := B2.lt
    have B2k := lt_add B2z
    have x2 := x1.keep hb2
    go_wp2_with fail
    refine (blank_any K K (by omega) (by omega) _).mono ?_
    rintro e w3 ⟨b, rfl, hbb, hB, hb3⟩
    clear B2c B2f
    have B3 := B2.keep hb3
    have B3c := B3.cell
    have B3f := B3.thawed
    have B3z := B3.lt
    have B3k := lt_add B3z
    have x3 := x2.keep hb3
    have z1 := hb1.size
    have z2 := hb2.size
    have z3 := hb3.size
    have zb := hB.lt
    simp at z1
    go_wp2
    have hw3 : Below w.heap.size w w3 := (by repeat (first | exact Below.refl _ _ | refine Below.al ?_ _ | refine Below.drN ?_ _ | refine Below.drew ?_ | refine Below.st ?_ (by first | (dsimp only; omega) | (simp; omega) | simp) _ | refine Below.go ?_ hb3 | refine Below.go ?_ hb2 | refine Below.go ?_ hb1))
    have hne : b ≠ w.heap.size := by omega
    clear B1 x1 B2 x2 B3c B3f
    go_loopw [6] (fun i wr => ∃ k : Nat, k ≤ K ∧ i = .int .i64 k ∧ Below w.heap.size w wr ∧ Box wr w.heap.size [.int .i64 R, .int .i64 K, .slice a0 (R * K) k0] 31 ∧
        Box wr w3.heap.size [.int .i64 K, .int .i64 K, .slice (some ⟨b, 0, none⟩) (K * K) (K * K)] 31 ∧ Box wr b ((unitTo K k).map (Value.int .i64)) 3) (fun i _ => K - (intOf i).toNat)
    case atStart => exact ⟨0, Nat.zero_le _, rfl, hw3.al _, B3.alloc _, Box.new _ _ _, by rw [unitTo_zero]; exact hB.alloc _⟩
    case round =>
      obtain ⟨k, hk, rfl, hbr, Ba, Bu, Bc⟩ := hrel
      have Bac := Ba.cell
      have Buc := Bu.cell
      by_cases hlt : k < K
      · have hkk2 := cell_lt hlt hlt
        have e1 : (k : Int) * K ≤ 144 := by have := Nat.mul_le_mul (show k ≤ 12 by omega) hK; rw [← Int.natCast_mul]; omega
        have e2 : (0 : Int) ≤ (k : Int) * K := by rw [← Int.natCast_mul]; omega
        have y1 : (k : Int) * K + k < (K : Int) * K := by rw [← Int.natCast_mul, ← Int.natCast_mul]; omega
        have y2 : 0 ≤ (k : Int) * K + k := by omega
        have y3 : ((k : Int) * K + k).toNat = k * K + k := by rw [← Int.natCast_mul]; omega
        have cc : (wr.cell? ⟨b, k * K + k, none⟩) = some (.int .i64 (ix (unitTo K k) (k * K + k))) := by
          rw [Bc.cell, List.getElem?_map, List.getElem?_eq_getElem (by unfold unitTo; rw [grid_length]; exact hkk2)]
          unfold ix
          rw [List.getElem?_eq_getElem (by unfold unitTo; rw [grid_length]; exact hkk2)]
          rfl
        have cf := Bc.thawed (k * K + k)
        go_wp2
        go_roundw
        case rel => exact ⟨k + 1, by omega, by go_num, hbr.st (by dsimp only; omega) _, Ba.far (by dsimp only; omega) _, Bu.far (by dsimp only; omega) _, by
          have hs := Bc.set (k * K + k) (.int .i64 256)
          rw [← unitTo_succ hlt, List.map_set]
          exact hs⟩
        case measure => simp [intOf]; omega
      · obtain rfl : k = K := by omega
        have xr := h0.keep hbr
        go_wp2_with fail
        have yu : IntsAt wr (some ⟨b, 0, none⟩) (k * k) (k * k) b 0 (unitTo k k) := by
          have h := ints_box Bc (by unfold unitTo maxLen; rw [grid_length]; omega)
          rwa [show (unitTo k k).length = k * k from grid_length _ _ _] at h
        have hfm : mulFault ⟨R, k, xs⟩ ⟨k, k, unitTo k k⟩ = 0 := mulFault_zero HC.out (unit_ok hK) rfl
        refine (matMul_ok ⟨R, k, xs⟩ ⟨k, k, unitTo k k⟩ _ _ _ (MatAt.mk xr) (MatAt.mk yu) hfm).mono ?_
        rw [unit_law hla hea]
        clear hfm
        rintro e w4 ⟨v4, rfl, ⟨a4, n4, k4, b4, o4, rfl, h4⟩, hb4⟩
        clear Bac Buc
        have B4 := Ba.keep hb4
        have B4c := B4.cell
        have B4f := B4.thawed
        have B4z := B4.lt
        have B4k := lt_add B4z
        have x4 := xr.keep hb4
        go_wp2_with fail
        refine (matrices_any ⟨R, k, xs⟩ ⟨R, k, xs⟩ _ _ _ (MatAt.mk (h4.alloc _)) (MatAt.mk (x4.alloc _))).mono ?_
        rintro e w5 ⟨rfl, hb5⟩
        have hd : decide ((⟨R, k, xs⟩ : Mat) = ⟨R, k, xs⟩) = true := decide_eq_true rfl
        go_wp2
        go_ret
        exact ⟨rfl, (by repeat (first | exact Below.refl _ _ | refine Below.al ?_ _ | refine Below.drN ?_ _ | refine Below.drew ?_ | refine Below.st ?_ (by first | (dsimp only; omega) | (simp; omega) | simp) _ | refine Below.go ?_ hb5 | refine Below.go ?_ hb4 | refine Below.go ?_ hbr))⟩
  · have hE : errV (matFault r c xs) = .iface 26 (.int .i64 (matFault r c xs)) := errV_err hc
    clear hc
    go_enter Try.func5, Try.ntmps5
    go_wp2_with fail
    refine (matFact_any _).mono ?_
    rintro e w1 ⟨rfl, hb1⟩
    have B1 := (Box.new w [.int .i64 r, .int .i64 c, .slice a0 n0 k0] 31).keep hb1
    have B1c := B1.cell
    have B1f := B1.thawed
    have B1z := B1.lt
    have B1k := lt_add B1z
    go_wp2_with fail
    refine (matCheck_any _ _ _ _ _ _ _ xs _ ((h0.alloc _).keep hb1)).mono ?_
    rintro e w2 ⟨rfl, hb2⟩
    go_wp2
    go_ret
    exact ⟨rfl, (by repeat (first | exact Below.refl _ _ | refine Below.al ?_ _ | refine Below.drN ?_ _ | refine Below.drew ?_ | refine Below.st ?_ (by first | (dsimp only; omega) | (simp; omega) | simp) _ | refine Below.go ?_ hb2 | refine Below.go ?_ hb1))⟩

theorem own : ownKnob Try.prog.godebug = none := by kernel_rfl
theorem laidOut : laidOutB Try.prog = true := by kernel_rfl
set_option maxRecDepth 100000 in
theorem lifted (os : Os) (started : os.Started) (H : Type) (enc : TypeId × Value → H) :
    ReturnsInHanded {} Try.checked os 5 .any (Rows.matUnitSpec.pre6 enc Try.prog Try.f5 Rows.matUnitRow.domain false) (Rows.matUnitSpec.post enc Try.prog Try.f5 false true false false) := by
  refine returnsInHanded_of_change (C := Try.checked) own started (by kernel_rfl) Try.func5
    (ChangeSpec.witness6 (enc := enc) (C := Try.checked) false ⟨#[], #[.agg #[.int .i64 0, .int .i64 0, .slice none 0 0]], []⟩ 8 (by kernel_rfl) (by kernel_rfl) (by kernel_rfl) (by kernel_rfl)) ?_
  intro W base args ds gs before hval0 hW hcnd hsz
  have hval : ∀ (j : Nat) t v, Try.f5.params[j]? = some t → args[j]? = some v → Value.okWide Try.prog W .any base t v := hval0
  have hW' := hW
  obtain ⟨p, q, hA0, hV, rfl, hfz, hnd⟩ := hW
  have hA : DataW.TrodAll enc Try.prog W 0 (fun _ => true) true Try.f5.params.toList args.toList ds p := hA0
  rw [Try.params5] at hA hval
  obtain ⟨v0, vs0, d0, ds0, p0, q0, hargs, rfl, rfl, h0, r0⟩ := trodAll_cons hA
  obtain ⟨rfl, rfl, rfl⟩ := trodAll_nil r0
  obtain rfl : args = #[v0] := by cases args; simp_all
  obtain ⟨rfl, rfl⟩ := trodVars_none hV
  have k0 := h0
  have lt0 : ∀ x ∈ p0, x.block < W.heap.size := by obtain ⟨m, hm⟩ := k0; exact DataW.trod_lt m _ _ _ hm
  obtain ⟨a0, w0⟩ := open_mat (hval 0 31 v0 rfl rfl) h0
  clear hA0 hval0
  refine (walk a0 v0 W w0).mono fun e W' ⟨he, bel⟩ => ?_
  subst he
  exact ⟨_, rfl, _, _, _, [], _, [], hW', trodAll_mk1 (shut_bool Try.underlying4 _), (trodAll_cons_mk (Below.trod laidOut (by kernel_rfl) (of_decide_eq_true (by kernel_rfl)) k0 bel lt0) trodAll_mk0), rfl, bel.frame _, fun h => by cases h⟩

theorem proved : Rows.MatUnitSaid :=
  OpenClaim.holds_of_wide 5 Try.f5 rfl rfl rfl rfl rfl rfl rfl ⟨rfl, rfl, rfl, rfl, rfl⟩ rfl rfl rfl rfl rfl (by kernel_rfl) Try.func5 (by kernel_rfl)
    (of_decide_eq_true (by kernel_rfl)) (by unfold Func.isWrapper; first | (rw [if_pos (by decide +kernel)]; kernel_rfl) | (rw [if_neg (by decide +kernel)]; exact ⟨rfl, rfl⟩))
    (fun os started H enc _ => lifted os started H enc)
#print axioms proved

end Go.Proofs.Ytlfeijffjpjnnaa.lawMatUnit
