/- FixBack: a number's text leads back to it; unlike ones have unlike texts: the law returns true. -/
import Derived.Test.YtchngeagnlngaaaDoorCards
import Derived.Test.YtchngeagnlngaaaDoorTie
import Derived.Test.YtchngeagnlngaaaDoorJ12
import Derived.Lib.Hide
import Derived.LaidMore
import Derived.Lib.LaidTab
import Derived.Stop.LaidErr
import Derived.MakeChecks
import Derived.WalkKit
import Derived.ProofKit
import Derived.OpenShut
import Derived.Below
import Derived.Deep.DeepHandedRow
import Derived.Deep.DeepWitnessRowRef
set_option linter.unusedVariables false
set_option linter.unusedSimpArgs false
namespace Go.Proofs.YtchngeagnlngaaaDoor.lawFixBack
open Go.ChangeShapes Go.WideShapes Go.ChangeAt Go.RowKit Gal
set_option maxRecDepth 100000
set_option maxHeartbeats 8000000
theorem walk (a b : Int) (w : World) (wa : (Lit.int IntKind.i64 a).wf = true) (wb : (Lit.int IntKind.i64 b).wf = true) (hp : Pow w) :
  Calls Tryd.prog 4 #[.int .i64 a, .int .i64 b] w fun e w' => e = .returned (.bool true) ∧ Below w.heap.size w w' := by
 have HP := Lib.hid hp
 obtain ⟨c, hc⟩ : ∃ c, clamp a = c := ⟨_, rfl⟩
 obtain ⟨d, hd⟩ : ∃ d, clamp b = d := ⟨_, rfl⟩
 have hcc : clamp c = c := by rw [← hc]; unfold clamp; omega
 obtain ⟨la, hla⟩ : ∃ la, textOf c = la := ⟨_, rfl⟩
 obtain ⟨lb, hlb⟩ : ∃ lb, textOf d = lb := ⟨_, rfl⟩
 have hin : c ≠ d → la ≠ lb := fun q h => q (textOf_inj (hla.trans (h.trans hlb.symm)))
 have heq : c = d → la = lb := fun q => by rw [← hla, ← hlb, q]
 have HC := Lib.hid hc; have HD := Lib.hid hd; have HCC := Lib.hid hcc; have HLA := Lib.hid hla; have HLB := Lib.hid hlb
 clear hc hd hcc hla hlb hp wa wb
 by_cases hcd : c = d
 ·obtain rfl := heq hcd
  subst hcd
  clear hin heq
  go_enter Tryd.func4, Tryd.ntmps4
  go_wp2_with fail
  refine (fixFact_any _).mono ?_
  rintro e w1 ⟨rfl, hb1⟩
  go_wp2_with fail
  refine (text_any a _ (HP.out.keep hb1)).mono ?_
  rintro e w2 ⟨rfl, hb2⟩
  rw [HC.out, HLA.out]
  have HP2 := Lib.hid ((HP.out.keep hb1).keep hb2)
  go_wp2_with fail
  refine (text_any b _ HP2.out).mono ?_
  rintro e w3 ⟨rfl, hb3⟩
  rw [HD.out, HLA.out]
  have HP3 := Lib.hid (HP2.out.keep hb3)
  go_wp2_with fail
  rw [← HLA.out]
  refine (parse_ok c HCC.out _ HP3.out).mono ?_
  rintro e w4 ⟨rfl, hb4⟩
  go_wp2_with fail
  refine (clamp_any a _).mono ?_
  rintro e w5 ⟨rfl, rfl⟩
  rw [HC.out]
  go_wp2_with fail
  refine (clamp_any b _).mono ?_
  rintro e w5 ⟨rfl, rfl⟩
  rw [HD.out]
  go_wp2
  go_ret
  exact ⟨rfl, (by repeat (first | (with_reducible first | exact Below.refl _ _ | refine Below.al ?_ _ | refine Below.drN ?_ _ | refine Below.drew ?_ | refine Below.sx ?_ _ | refine Below.go ?_ hb4 | refine Below.go ?_ hb3 | refine Below.go ?_ hb2 | refine Below.go ?_ hb1) | exact Below.refl _ _))⟩
 ·have HX : Hid (((la == lb) == (c == d)) = true) := Lib.hid (by
   have e1 : (la == lb) = false := by simpa using hin hcd
   have e2 : (c == d) = false := by simpa using hcd
   rw [e1, e2]
   rfl)
  clear hin heq
  go_enter Tryd.func4, Tryd.ntmps4
  go_wp2_with fail
  refine (fixFact_any _).mono ?_
  rintro e w1 ⟨rfl, hb1⟩
  go_wp2_with fail
  refine (text_any a _ (HP.out.keep hb1)).mono ?_
  rintro e w2 ⟨rfl, hb2⟩
  rw [HC.out, HLA.out]
  have HP2 := Lib.hid ((HP.out.keep hb1).keep hb2)
  go_wp2_with fail
  refine (text_any b _ HP2.out).mono ?_
  rintro e w3 ⟨rfl, hb3⟩
  rw [HD.out, HLB.out]
  have HP3 := Lib.hid (HP2.out.keep hb3)
  go_wp2_with fail
  rw [← HLA.out]
  refine (parse_ok c HCC.out _ HP3.out).mono ?_
  rintro e w4 ⟨rfl, hb4⟩
  rw [HLA.out]
  go_wp2_with fail
  refine (clamp_any a _).mono ?_
  rintro e w5 ⟨rfl, rfl⟩
  rw [HC.out]
  go_wp2_with fail
  refine (clamp_any b _).mono ?_
  rintro e w5 ⟨rfl, rfl⟩
  rw [HD.out]
  go_wp2
  go_ret
  exact ⟨by show Ending.returned (Value.bool ((la == lb) == (c == d))) = _; rw [HX.out], (by repeat (first | (with_reducible first | exact Below.refl _ _ | refine Below.al ?_ _ | refine Below.drN ?_ _ | refine Below.drew ?_ | refine Below.sx ?_ _ | refine Below.go ?_ hb4 | refine Below.go ?_ hb3 | refine Below.go ?_ hb2 | refine Below.go ?_ hb1) | exact Below.refl _ _))⟩
theorem own : ownKnob Tryd.prog.godebug = none := by kernel_rfl
theorem laidOut : laidOutB Tryd.prog = true := by kernel_rfl
theorem pow_of_laid {W : World} (h : laidMetH Tryd.prog Rows.fixBackRow.laid W) : Pow W := by
 have h1 : laidMet Tryd.prog [("math/bits.deBruijn32tab", Rows.laid_math_bits_deBruijn32tab), ("math/bits.deBruijn64tab", Rows.laid_math_bits_deBruijn64tab), ("internal/strconv.uint64pow10", Rows.laid_internal_strconv_uint64pow10)] W := h
 have h2 : laidMet Tryd.prog (("internal/strconv.uint64pow10", Lib.tabData .u64 Lib.pow10Tab) :: []) W := h1.tail.tail
 exact Lib.tabIs_of_head (g := 2) (by kernel_rfl) (by kernel_rfl) Tryd.underlying142 Tryd.underlying66 (by kernel_rfl) (by kernel_rfl) h2
theorem laid_met (os : Os) : laidMetH Tryd.prog Rows.fixBackRow.laid ((World.doorLaid Tryd.prog 400 os).forCall (fun _ _ => 0) ⟨#[], #[.int .i64 0, .int .i64 0], []⟩).memory :=
 laidMetH_of_parts3 (fuel := 8) (laidMet_of_run' 8 (by kernel_rfl) (by kernel_rfl)) (by kernel_rfl) (by kernel_rfl)
theorem reads (os : Os) {H : Type} (enc : TypeId × Value → H) : ∃ places, DataW.whole enc Tryd.prog ((World.doorLaid Tryd.prog 400 os).forCall (fun _ _ => 0) ⟨#[], #[.int .i64 0, .int .i64 0], []⟩).memory Tryd.f4.params.toList Rows.fixBackSpec.vars false (#[.int .i64 0, .int .i64 0] : Array Value).toList 8 = some ([.lit (.int .i64 0), .lit (.int .i64 0)], [], places) :=
 ⟨[], by kernel_rfl⟩
set_option maxRecDepth 100000 in
set_option maxHeartbeats 1000000 in
theorem contract (H : Type) (enc : TypeId × Value → H) (W : World) (base : Nat) (args : Array Value) (ds gs : List (DataW H)) (before : List MemPlace)
  (hval0 : ∀ (j : Nat) t v, Tryd.f4.params[j]? = some t → args[j]? = some v → Value.okWide Tryd.prog W .any base t v)
  (hW : DataW.Whole enc Tryd.prog Tryd.f4.params.toList Rows.fixBackSpec.vars false W args.toList ds gs before) (hpw : Pow W) :
  Calls Tryd.prog 4 args W fun e W' => ∃ v, e = .returned v ∧ Rows.fixBackSpec.post enc Tryd.prog Tryd.f4 false true false false W args v W' := by
 have hval := hval0
 have hW' := hW
 obtain ⟨p, q, hA0, hV, rfl, hfz, hnd⟩ := hW
 have hA : DataW.TrodAll enc Tryd.prog W 0 (fun _ => true) true Tryd.f4.params.toList args.toList ds p := hA0
 rw [Tryd.params4] at hA hval
 obtain ⟨v0, vs0, d0, ds0, p0, q0, hargs, rfl, rfl, h0, r0⟩ := trodAll_cons hA
 obtain ⟨v1, vs1, d1, ds1, p1, q1, rfl, rfl, rfl, h1, r1⟩ := trodAll_cons r0
 obtain ⟨rfl, rfl, rfl⟩ := trodAll_nil r1
 obtain rfl : args = #[v0, v1] := by cases args; simp_all
 obtain ⟨rfl, rfl⟩ := trodVars_none hV
 have k0 := h0
 have lt0 : ∀ x ∈ p0, x.block < W.heap.size := by obtain ⟨m, hm⟩ := k0; exact DataW.trod_lt m _ _ _ hm
 have k1 := h1
 have lt1 : ∀ x ∈ p1, x.block < W.heap.size := by obtain ⟨m, hm⟩ := k1; exact DataW.trod_lt m _ _ _ hm
 obtain ⟨a0, rfl, rfl, rfl, w0⟩ := open_int Tryd.underlying3 (hval 0 3 v0 rfl rfl) h0
 obtain ⟨a1, rfl, rfl, rfl, w1⟩ := open_int Tryd.underlying3 (hval 1 3 v1 rfl rfl) h1
 clear hA0 hval0
 refine (walk a0 a1 W w0 w1 hpw).mono fun e W' ⟨he, bel⟩ => ?_
 subst he
 exact ⟨_, rfl, _, _, _, [], _, [], hW', trodAll_mk1 (shut_bool Tryd.underlying4 _), (trodAll_cons_mk (Below.trod laidOut (by kernel_rfl) (of_decide_eq_true (by kernel_rfl)) k0 bel lt0) (trodAll_cons_mk (Below.trod laidOut (by kernel_rfl) (of_decide_eq_true (by kernel_rfl)) k1 bel lt1) trodAll_mk0)), rfl, bel.frame _, fun h => by cases h⟩
set_option maxRecDepth 100000 in
theorem lifted (os : Os) (started : os.Started) (H : Type) (enc : TypeId × Value → H) (F : Stop.Interp) :
  ReturnsInHanded {} Tryd.checked os 4 .any ((OpenSpec.ofChange Rows.fixBackSpec).preRow enc Tryd.prog Tryd.f4 Rows.fixBackRow.domain false Rows.fixBackRow.laid) (((OpenSpec.ofChange Rows.fixBackSpec).at F).post enc Tryd.prog Tryd.f4 false true false false) := by
 obtain ⟨places, hx⟩ := reads os enc
 refine returnsInHanded_of_row (C := Tryd.checked) (s := OpenSpec.ofChange Rows.fixBackSpec) own started (by kernel_rfl) Tryd.func4
  (witness_row_atRef (enc := enc) (C := Tryd.checked) false (World.doorLaid Tryd.prog 400 os) #[.int .i64 0, .int .i64 0] rfl (by kernel_rfl) (by kernel_rfl) (by kernel_rfl)
   (OpenSpec.preRow_of_cond 8 hx (by kernel_rfl) (fun k hk => by cases hk) (by kernel_rfl) (laid_met os))) ?_
 intro W base args ds gs before hval hW _ _ _ hL _ _
 exact contract H enc W base args ds gs before hval hW (pow_of_laid hL)
theorem said : Rows.FixBackSaid :=
 OpenClaim.holds_of_cond 4 Tryd.f4 rfl rfl rfl rfl rfl rfl rfl ⟨rfl, rfl, rfl, rfl, rfl⟩ rfl rfl rfl rfl rfl (by kernel_rfl) Tryd.func4 (by kernel_rfl)
  (of_decide_eq_true (by kernel_rfl)) (by unfold Func.isWrapper; first | (rw [if_pos (by decide +kernel)]; kernel_rfl) | (rw [if_neg (by decide +kernel)]; exact ⟨rfl, rfl⟩))
  (fun os started H enc _ F => by rw [OpenClaim.pre_eq_preRow]; exact lifted os started H enc F)
theorem plain (f : FuncId) (fn : Func) (hf : Tryd.pinned.checked.prog.funcNamed Rows.fixBackRow.func = some f) (hfn : Tryd.pinned.checked.prog.funcs[f]? = some fn) :
  Rows.fixBackCard.stood.looks = Tryd.pinned.checked.prog.looks [] ∧ ∀ (j : Nat) t, fn.params[j]? = some t → Tryd.pinned.checked.prog.wantsStandIn t = false := by
 obtain rfl : f = 4 := Option.some.inj ((show Tryd.prog.funcNamed Rows.fixBackRow.func = some 4 by kernel_rfl).symm.trans hf) |>.symm
 obtain rfl : fn = Tryd.f4 := (Option.some.inj (Tryd.func4.symm.trans hfn)).symm
 refine ⟨by kernel_rfl, fun j t ht => ?_⟩
 rw [Tryd.params4] at ht
 have hm := Array.mem_of_getElem? ht
 have hc : t = 3 ∨ t = 3 := by simpa using hm
 rcases hc with rfl | rfl
 ·exact (show Tryd.prog.wantsStandIn 3 = false by kernel_rfl)
 ·exact (show Tryd.prog.wantsStandIn 3 = false by kernel_rfl)
theorem proved : Rows.FixBackCardSaid :=
 Claim7.holds_tied_plain_at .later [] _ _ _ _ said (fun _ h => by cases h) (by kernel_rfl) (fun _ h => by cases h) fixBack_row_tie rfl ⟨rfl, rfl⟩ (by kernel_rfl) rfl plain (by kernel_rfl)
#print axioms proved
end Go.Proofs.YtchngeagnlngaaaDoor.lawFixBack
