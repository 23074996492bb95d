/- Texts joined: Open, Opens, SameI, Fix, ErrV, Mat1. -/
import Derived.Test.YtchngeagnlngaaaJ03
import Derived.Test.YtchngeagnlngaaaProg
import Derived.ProofKit
import Derived.OpenShut
import Derived.Lib.SmallJoins
import Derived.Deep.Slices
import Derived.Deep.Strs
import Derived.WalkKit
import Derived.WalkLawsBesides
import Derived.WalkSpells
import Derived.BigQuiet
import Derived.IntWalk
import Derived.RegionTactic
import Derived.Test.YtchngeagnlngaaaJ02
section
set_option linter.unusedVariables false
set_option linter.unusedSimpArgs false
namespace Go.Proofs.Ytchngeagnlngaaa
open Go.ChangeShapes Go.WideShapes Go.ChangeAt Go.RowKit Go.Joins Gal
theorem cells_mat : Try.prog.cellsOf 28 = 3 := by kernel_rfl
theorem cells_int : Try.prog.cellsOf 3 = 1 := by kernel_rfl
end Go.Proofs.Ytchngeagnlngaaa
end
section
set_option linter.unusedVariables false
set_option linter.unusedSimpArgs false
set_option linter.unusedSectionVars false
namespace Gal
open Go Go.RowKit Go.ChangeShapes Go.WideShapes Go.Deep
theorem list_of {α : Type} {P : Nat → α → Prop} : ∀ n : Nat, (∀ i, i < n → ∃ x, P i x) → ∃ xs : List α, xs.length = n ∧ ∀ i x, xs[i]? = some x → P i x := by
 intro n
 induction n with
 | zero => exact fun _ => ⟨[], rfl, fun i x h => by cases h⟩
 | succ n ih =>
  intro h
  obtain ⟨xs, hl, hx⟩ := ih fun i hi => h i (by omega)
  obtain ⟨y, hy⟩ := h n (by omega)
  refine ⟨xs ++ [y], by simp [hl], fun i x hi => ?_⟩
  rcases Nat.lt_or_ge i xs.length with h1 | h1
  ·rw [List.getElem?_append_left h1] at hi
   exact hx i x hi
  ·rw [List.getElem?_append_right h1] at hi
   have h2 : i - xs.length = 0 := by
    rcases Nat.eq_zero_or_pos (i - xs.length) with h2 | h2
    ·exact h2
    ·rw [List.getElem?_eq_none (by simp; omega)] at hi; cases hi
   rw [h2] at hi
   simp at hi
   subst hi
   obtain rfl : i = n := by omega
   exact hy
section
variable {P : Program}
def Opens {α : Type} (P : Program) (f : Form α) (T : TypeId) : Prop :=
 P.cellsOf T = f.size ∧ ∀ (H : Type) (enc : TypeId × Value → H) (w : World) (base : Nat) (spare : Nat → Bool) (held : Bool) (fuel : Nat) (cs : List Value) (y : DataW H × List MemPlace),
  DataW.trod enc P w base spare held fuel T cs = some y → ∃ x, f.reads w anyB cs x
theorem Opens.int {T : TypeId} (hT : P.underlying T = some (.int .i64)) (hc : P.cellsOf T = 1) : Opens P Form.int T := ⟨hc, fun H enc w base spare held fuel cs y h => by
 obtain ⟨x, e, _, _⟩ := DataW.trod_int hT h
 exact ⟨x, e⟩⟩
theorem Opens.as {α β : Type} {f : Form α} {T : TypeId} (h : Opens P f T) (mk : α → β) : Opens P (f.as mk) T := ⟨h.1, fun H enc w base spare held fuel cs y hy => by
 obtain ⟨x, hx⟩ := h.2 H enc w base spare held fuel cs y hy
 exact ⟨mk x, x, hx, rfl⟩⟩
theorem Opens.two {α β : Type} {f : Form α} {g : Form β} {T : TypeId} {f0 f1 : Field} (ht : P.underlying T = some (.struct #[f0, f1])) (hf : Opens P f f0.type) (hg : Opens P g f1.type) (h0 : f0.offset = 0) (h1 : f1.offset = f.size) (hc : P.cellsOf T = f.size + g.size) :
  Opens P (f.and g) T := ⟨hc, fun H enc w base spare held fuel cs y hy => by
 obtain ⟨y0, y1, n, _, hl, k0, k1⟩ := trod_struct2 ht hy
 obtain ⟨x0, r0⟩ := hf.2 _ _ _ _ _ _ _ _ _ k0
 obtain ⟨x1, r1⟩ := hg.2 _ _ _ _ _ _ _ _ _ k1
 refine ⟨(x0, x1), _, _, ?_, r0, r1⟩
 rw [h0, h1, hf.1, hg.1, List.drop_zero, List.take_of_length_le (l := cs.drop f.size) (by rw [List.length_drop, hl, hc]; omega), List.take_append_drop]⟩
theorem Opens.three {α β γ : Type} {f : Form α} {g : Form β} {k : Form γ} {T : TypeId} {f0 f1 f2 : Field} (ht : P.underlying T = some (.struct #[f0, f1, f2])) (hf : Opens P f f0.type) (hg : Opens P g f1.type) (hk : Opens P k f2.type)
  (h0 : f0.offset = 0) (h1 : f1.offset = f.size) (h2 : f2.offset = f.size + g.size) (hc : P.cellsOf T = f.size + (g.size + k.size)) :
  Opens P (f.and (g.and k)) T := ⟨hc, fun H enc w base spare held fuel cs y hy => by
 obtain ⟨y0, y1, y2, n, _, hl, k0, k1, k2⟩ := trod_struct3 ht hy
 obtain ⟨x0, r0⟩ := hf.2 _ _ _ _ _ _ _ _ _ k0
 obtain ⟨x1, r1⟩ := hg.2 _ _ _ _ _ _ _ _ _ k1
 obtain ⟨x2, r2⟩ := hk.2 _ _ _ _ _ _ _ _ _ k2
 refine ⟨(x0, x1, x2), _, _, ?_, r0, _, _, rfl, r1, r2⟩
 rw [h0, h1, h2, hf.1, hg.1, hk.1, List.drop_zero, List.take_of_length_le (l := cs.drop (f.size + g.size)) (by rw [List.length_drop, hl, hc]; omega), ← List.drop_drop, List.take_append_drop, List.take_append_drop]⟩
theorem Opens.slice {α : Type} {f : Form α} {T E : TypeId} (hf : Opens P f E) (ht : P.underlying T = some (.slice E)) (hc : P.cellsOf T = 1) (hsz : 0 < f.size) : Opens P f.slice T := ⟨hc, fun H enc w base spare held fuel cs y hy => by
 rcases open_slice ht hy with ⟨rfl, _⟩ | ⟨a, len, cap, m, n, D, Pl, rfl, hb, hl, hm, hmm, rfl, hx⟩
 ·exact ⟨[], none, 0, 0, 0, 0, rfl, RowAt.nil f w anyB⟩
 ·have hlm : len ≤ m := by rw [hmm]; split <;> omega
  obtain ⟨b, off, spot⟩ := a
  have hcell0 : 0 < len → ∃ v, w.cell? ⟨b, off, none⟩ = some v ∧ spot = none := fun h0 => by
   obtain ⟨cs', h1, h2⟩ := hx 0 (by omega)
   obtain ⟨_, hlen, hcell⟩ := World.cells?_some h1
   rw [hf.1] at hcell hlen
   have hh := hcell 0 hsz
   rw [List.getElem?_eq_getElem (by omega)] at hh
   have hsp := World.cell?_spot hh
   simp [Addr.add] at hsp hh
   subst hsp
   exact ⟨_, hh, rfl⟩
  have hall : ∀ i, i < len → ∃ x, ∃ cs, f.reads w anyB cs x ∧ ∀ j, j < f.size → w.cell? ⟨b, off + i * f.size + j, none⟩ = cs[j]? := fun i hi => by
   obtain ⟨cs', h1, h2⟩ := hx i (by omega)
   obtain ⟨x, hr⟩ := hf.2 _ _ _ _ _ _ _ _ _ h2
   obtain ⟨_, hlen, hcell⟩ := World.cells?_some h1
   rw [hf.1] at hcell hlen
   obtain ⟨_, _, hsp⟩ := hcell0 (by omega)
   subst hsp
   refine ⟨x, cs', hr, fun j hj => ?_⟩
   rw [← hcell j hj, add_add]
   congr 1
   unfold Addr.add
   split
   ·rename_i h0
    simp only [Addr.mk.injEq, and_true, true_and]
    omega
   ·simp only [Addr.mk.injEq, and_true, true_and]
    omega
  obtain ⟨xs, hxl, hxs⟩ := list_of len hall
  refine ⟨xs, _, len, cap, b, off, rfl, hxl, hl, hm, fun h0 => ?_, fun h0 => ?_, fun _ => trivial, hxs⟩
  ·obtain ⟨v, _, rfl⟩ := hcell0 h0
   rfl
  ·obtain ⟨v, hv, _⟩ := hcell0 h0
   exact World.block_lt_of_cell? w _ hv⟩
theorem Opens.top_struct {α : Type} {f : Form α} {T : TypeId} {fs : Array Field} (hf : Opens P f T) (ht : P.underlying T = some (.struct fs)) {H : Type} {enc : TypeId × Value → H} {w : World} {base b0 : Nat} {r : Reach} {spare : Nat → Bool} {held : Bool} {v : Value} {d : DataW H} {p : List MemPlace}
  (hv : Value.okWide P w r b0 T v) (h : DataW.Trod enc P w base spare held T v d p) : ∃ x, At f w anyB v x := by
 obtain ⟨cs, rfl, _⟩ := okWide_struct ht hv
 obtain ⟨fuel, hy⟩ := h
 obtain ⟨x, hx⟩ := hf.2 _ _ _ _ _ _ _ _ _ hy
 exact ⟨x, cs.toList, by simp, by simpa [Value.cells] using hx⟩
end
end Gal
namespace Go.Proofs.Ytchngeagnlngaaa
open Go.RowKit Gal
theorem opens_int : Opens Try.prog Form.int 3 := Opens.int Try.underlying3 cells_int
set_option maxRecDepth 100000 in
theorem opens_mat : Opens Try.prog Form.mat 28 := ⟨cells_mat, fun H enc w base spare held fuel cs y h => by
 have hI : Opens Try.prog (Form.int.and (Form.int.and Form.int.slice)) 28 :=
  Opens.three Try.underlying28 opens_int opens_int (Opens.slice opens_int Try.underlying26 (by kernel_rfl) (by decide)) (by kernel_rfl) (by kernel_rfl) (by kernel_rfl) cells_mat
 obtain ⟨⟨r, c, xs⟩, c0, c1, rfl, rfl, c2, c3, rfl, rfl, a, n, cap, b, off, rfl, hr⟩ := hI.2 _ _ _ _ _ _ _ _ _ h
 exact ⟨⟨r, c, xs⟩, a, n, cap, b, off, rfl, fun _ => trivial, hr.ints⟩⟩
end Go.Proofs.Ytchngeagnlngaaa
end
section
set_option linter.unusedVariables false
set_option linter.unusedSimpArgs false
namespace Go.Proofs.Ytchngeagnlngaaa
open Go.RowKit Gal
theorem ret_int {k : IntKind} {a b : Int} (h : a = b) : Ending.returned (.int k a) = .returned (.int k b) := by rw [h]
def pickOf (c n : Int) : Int := (if c < 0 then -(c + 1) else c) % n
theorem pick_any (c n : Int) (w : World) (hc : -9223372036854775808 ≤ c) (hc' : c ≤ 9223372036854775807) (hn : 0 < n) (hn' : n ≤ 1000000) :
  Calls Try.prog 10 #[.int .i64 c, .int .i64 n] w fun e w' => e = .returned (.int .i64 (pickOf c n)) ∧ w = w' := by
 by_cases h : c < 0
 ·go_enter Try.func10, Try.ntmps10
  go_wp2
  go_ret
  refine ⟨ret_int ?_, rfl⟩
  show -((c + 1).tmod n) = _
  unfold pickOf
  rw [if_pos h, ← Int.neg_tmod, Int.tmod_eq_emod_of_nonneg (by omega)]
 ·go_enter Try.func10, Try.ntmps10
  go_wp2
  go_ret
  refine ⟨ret_int ?_, rfl⟩
  unfold pickOf
  rw [if_neg (by omega)]
set_option maxRecDepth 100000 in
set_option maxHeartbeats 1000000 in
theorem ints_any (a0 a1 : Option Addr) (n0 n1 k0 k1 b0 b1 o0 o1 : Nat) (xs ys : List Int) (w : World) (h0 : IntsAt w a0 n0 k0 b0 o0 xs) (h1 : IntsAt w a1 n1 k1 b1 o1 ys) :
  Calls Try.prog 22 #[.slice a0 n0 k0, .slice a1 n1 k1] w fun e w' => e = .returned (.bool (decide (xs = ys))) ∧ ∃ m, w' = w.drewN m := by
 have m0 := h0.max
 have m1 := h1.max
 unfold maxLen at m0 m1
 have l0 := h0.len
 have l1 := h1.len
 by_cases hn : n0 = n1
 ·subst hn
  have hne : ((n0 : Int) != (n0 : Int)) = false := by simp
  go_enter Try.func22, Try.ntmps22
  go_wp2
  go_loopw [5] (fun i wr => ∃ k m : Nat, k ≤ n0 ∧ i = .int .i64 k ∧ wr = w.drewN m ∧ (∀ j, j < k → ix xs j = ix ys j)) (fun i _ => n0 - (intOf i).toNat)
  case atStart => exact ⟨0, 0, Nat.zero_le _, rfl, rfl, fun j hj => absurd hj (Nat.not_lt_zero _)⟩
  case round =>
   obtain ⟨k, m, hk, rfl, rfl, hpre⟩ := hrel
   have HP := Lib.hid hpre
   clear hpre
   by_cases hlt : k < n0
   ·have hltI : (k : Int) < (n0 : Int) := by omega
    obtain rfl := h0.ptr (by omega)
    obtain rfl := h1.ptr (by omega)
    have c0 := h0.cell k hlt
    have c1 := h1.cell k hlt
    by_cases hx : ix xs k = ix ys k
    ·have hxx : (ix xs k != ix ys k) = false := by simp [hx]
     have HX := Lib.hid hx
     clear hx
     go_wp2
     go_quiet (fail)
     go_wp2
     go_roundw
     case rel => exact ⟨k + 1, _, by omega, by go_num, rfl, fun j hj => by
      by_cases e : j = k
      ·rw [e]; exact HX.out
      ·exact HP.out j (by omega)⟩
     case measure => simp [intOf]; omega
    ·have hxx : (ix xs k != ix ys k) = true := by simp [hx]
     have HX := Lib.hid hx
     clear hx
     go_wp2
     go_quiet (fail)
     go_wp2
     go_ret
     refine ⟨ret_val ?_, m + nq, World.drewN_drewN _ _ _⟩
     rw [decide_eq_false (fun h => HX.out (by rw [h]))]
     rfl
   ·go_wp2
    go_ret
    refine ⟨ret_val ?_, m, rfl⟩
    rw [decide_eq_true (eq_of_ix (by omega) (fun j hj => HP.out j (by omega)))]
    rfl
 ·have hne : ((n0 : Int) != (n1 : Int)) = true := by simp; omega
  have hd : decide (xs = ys) = false := decide_eq_false (fun h => hn (by rw [← l0, ← l1, h]))
  rw [hd]
  clear hd hn l0 l1
  go_enter Try.func22, Try.ntmps22
  go_wp2
  go_ret
  exact ⟨rfl, 0, rfl⟩
instance : DecidableEq Mat := fun a b => by
 obtain ⟨r, c, xs⟩ := a
 obtain ⟨r', c', ys⟩ := b
 simp only [Mat.mk.injEq]
 exact inferInstance
end Go.Proofs.Ytchngeagnlngaaa
end
section

set_option linter.unusedVariables false
set_option linter.unusedSimpArgs false
namespace Go.Proofs.Ytchngeagnlngaaa
open Go.RowKit
theorem clamp_any (x : Int) (w : World) : Calls Try.prog 69 #[.int .i64 x] w fun e w' => e = .returned (.int .i64 (Gal.clamp x)) ∧ w = w' := by
 go_enter Try.func69, Try.ntmps69
 go_wp2
 all_goals (go_ret; exact ⟨ret_int (by unfold Gal.clamp; omega), rfl⟩)
theorem add_any (a b : Int) (w : World) : Calls Try.prog 31 #[.int .i64 a, .int .i64 b] w fun e w' => e = .returned (.int .i64 (Gal.add a b)) ∧ w = w' := by
 have h1 := Gal.clamp_lo a; have h2 := Gal.clamp_hi a; have h3 := Gal.clamp_lo b; have h4 := Gal.clamp_hi b
 go_enter Try.func31, Try.ntmps31
 go_wp2_with (go_at_call 69; refine (clamp_any _ _).mono ?_; rintro e w' ⟨rfl, rfl⟩)
 go_ret
 exact ⟨rfl, rfl⟩
theorem sub_any (a b : Int) (w : World) : Calls Try.prog 73 #[.int .i64 a, .int .i64 b] w fun e w' => e = .returned (.int .i64 (Gal.sub a b)) ∧ w = w' := by
 have h1 := Gal.clamp_lo a; have h2 := Gal.clamp_hi a; have h3 := Gal.clamp_lo b; have h4 := Gal.clamp_hi b
 go_enter Try.func73, Try.ntmps73
 go_wp2_with (go_at_call 69; refine (clamp_any _ _).mono ?_; rintro e w' ⟨rfl, rfl⟩)
 go_ret
 exact ⟨rfl, rfl⟩
theorem mul_any (a b : Int) (w : World) : Calls Try.prog 66 #[.int .i64 a, .int .i64 b] w fun e w' => e = .returned (.int .i64 (Gal.mul a b)) ∧ w = w' := by
 have h1 := Gal.clamp_lo a; have h2 := Gal.clamp_hi a; have h3 := Gal.clamp_lo b; have h4 := Gal.clamp_hi b
 obtain ⟨h5, h6⟩ := Gal.mul_bd a b
 go_enter Try.func66, Try.ntmps66
 go_wp2_with (go_at_call 69; refine (clamp_any _ _).mono ?_; rintro e w' ⟨rfl, rfl⟩)
 go_ret
 exact ⟨rfl, rfl⟩
end Go.Proofs.Ytchngeagnlngaaa
end
section
set_option linter.unusedVariables false
set_option linter.unusedSimpArgs false
namespace Go.Proofs.Ytchngeagnlngaaa
def errV (k : Int) : Value := if k = 0 then .nilIface else .iface 62 (.int .i64 k)
theorem errV_nil {k : Int} (h : k = 0) : errV k = .nilIface := by unfold errV; rw [if_pos h]
theorem errV_err {k : Int} (h : k ≠ 0) : errV k = .iface 62 (.int .i64 k) := by unfold errV; rw [if_neg h]
end Go.Proofs.Ytchngeagnlngaaa
end
section
set_option linter.unusedVariables false
set_option linter.unusedSimpArgs false
namespace Go.Proofs.Ytchngeagnlngaaa
open Go.RowKit Gal
set_option maxHeartbeats 400000 in
theorem matCheck_any (r c : Int) (a : Option Addr) (n cap b off : Nat) (xs : List Int) (w : World) (hm : IntsAt w a n cap b off xs) :
  Calls Try.prog 63 #[.agg #[.int .i64 r, .int .i64 c, .slice a n cap]] w fun e w' => e = .returned (errV (matFault r c xs)) ∧ Below w.heap.size w w' := by
 by_cases h1 : r < 0 ∨ 24 < r ∨ c < 0 ∨ 12 < c
 ·have hf : matFault r c xs = 1 := by unfold matFault; rw [if_pos h1]
  rw [hf, errV_err (by omega)]
  clear hf hm
  go_enter Try.func63, Try.ntmps63
  go_wp2
  all_goals (go_ret; exact ⟨rfl, (Below.refl _ _).alloc (Nat.le_refl _) _⟩)
 ·have g1 : 0 ≤ r ∧ r ≤ 24 ∧ 0 ≤ c ∧ c ≤ 12 := by omega
  obtain ⟨r0, r1, c0, c1⟩ := g1
  obtain ⟨R, rfl⟩ := Int.eq_ofNat_of_zero_le r0
  obtain ⟨C, rfl⟩ := Int.eq_ofNat_of_zero_le c0
  have hrc : (R : Int) * C ≤ 288 := by
   have := Nat.mul_le_mul (show R ≤ 24 by omega) (show C ≤ 12 by omega)
   rw [← Int.natCast_mul]; omega
  have hrc0 : 0 ≤ (R : Int) * C := by rw [← Int.natCast_mul]; omega
  have hl := hm.len
  have hmx := hm.max
  unfold maxLen at hmx
  by_cases h2 : (n : Int) = R * C
  ·have hne : ((n : Int) != R * C) = false := by simp [h2]
   have hn : n ≤ 288 := by omega
   have hf : matFault R C xs = if inEnds xs then 0 else 1 := by unfold matFault; rw [if_neg h1, if_neg (by rw [hl]; omega)]
   have HF := Lib.hid hf
   clear hf h2 h1
   go_enter Try.func63, Try.ntmps63
   go_wp2
   go_loop [37] (fun i => ∃ k : Nat, k ≤ n ∧ i = .int .i64 k ∧ ∀ j, j < k → clamp (ix xs j) = ix xs j) (fun i => n - (intOf i).toNat)
   case atStart => exact ⟨0, Nat.zero_le _, rfl, fun j hj => absurd hj (Nat.not_lt_zero _)⟩
   case round =>
    obtain ⟨k, hk, rfl, hpre⟩ := hrel
    have HP := Lib.hid hpre
    clear hpre
    by_cases hlt : k < n
    ·have hn0 : 0 < n := by omega
     obtain rfl := hm.ptr hn0
     have hb0 := hm.lt hn0
     have hb := lt_add hb0
     have hc := hm.cell k hlt
     by_cases hx : clamp (ix xs k) = ix xs k
     ·have hxx : (clamp (ix xs k) != ix xs k) = false := by simp [hx]
      have HX := Lib.hid hx
      clear hx
      go_wp2_with (go_at_call 69; refine (clamp_any _ _).mono ?_; rintro e w' ⟨rfl, rfl⟩)
      go_round
      case rel => exact ⟨k + 1, by omega, by go_num, fun j hj => by
       by_cases e : j = k
       ·rw [e]; exact HX.out
       ·exact HP.out j (by omega)⟩
      case measure => simp [intOf]; omega
     ·have hxx : (clamp (ix xs k) != ix xs k) = true := by simp [hx]
      have HX := Lib.hid hx
      clear hx
      go_wp2_with (go_at_call 69; refine (clamp_any _ _).mono ?_; rintro e w' ⟨rfl, rfl⟩)
      go_ret
      refine ⟨ret_val ?_, (Below.refl _ _).alloc (Nat.le_refl _) _⟩
      show Value.iface _ _ = _
      rw [← errV_err (k := 1) (by omega)]
      rw [HF.out, if_neg (fun h => HX.out (h k (by rw [hl]; exact hlt)))]
    ·go_wp2
     go_ret
     refine ⟨ret_val ?_, (Below.refl _ _).alloc (Nat.le_refl _) _⟩
     show Value.nilIface = _
     rw [HF.out, if_pos (show inEnds xs from fun j hj => HP.out j (by omega)), errV_nil rfl]
  ·have hne : ((n : Int) != R * C) = true := by simp [h2]
   have hf : matFault R C xs = 2 := by unfold matFault; rw [if_neg h1, if_pos (by rw [hl]; exact h2)]
   rw [hf, errV_err (by omega)]
   clear hf h1 h2
   go_enter Try.func63, Try.ntmps63
   go_wp2
   go_ret
   exact ⟨rfl, (Below.refl _ _).alloc (Nat.le_refl _) _⟩
end Go.Proofs.Ytchngeagnlngaaa
end
