/- fix.Text at any number. -/
import Derived.Test.YtchngeagnlngaaaDoorText1
import Derived.Test.YtchngeagnlngaaaDoorPText
import Derived.Test.YtchngeagnlngaaaDoorShelf
import Derived.Lib.SmallJoins
set_option linter.unusedVariables false
set_option linter.unusedSimpArgs false
namespace Go.Proofs.YtchngeagnlngaaaDoor
open Go.RowKit Gal
/-- the table that Itoa reads -/
def Pow (w : World) : Prop := Lib.TabIs Tryd.prog w "internal/strconv.uint64pow10" .u64 Lib.pow10Tab
theorem Pow.keep {w w' : World} (h : Pow w) (hb : Below w.heap.size w w') : Pow w' := by
  have h' : w.var? Tryd.prog "internal/strconv.uint64pow10" = some _ := h
  obtain ⟨g, hg⟩ : ∃ g, Tryd.prog.globalNamed "internal/strconv.uint64pow10" = some g := by
    unfold World.var? at h'
    cases hq : Tryd.prog.globalNamed "internal/strconv.uint64pow10" with
    | none => rw [hq] at h'; cases h'
    | some g => exact ⟨g, rfl⟩
  exact Go.Joins.tab_stays hg h hb (Nat.le_refl _)
theorem below_grow (w : World) (n : Nat) (os : Array Obj) : Below w.heap.size w (Sort.grow (w.drewN n) os) :=
  ⟨rfl, rfl, rfl, by show w.heap.size ≤ (w.heap ++ os).size; rw [Array.size_append]; omega, fun k hk => by
    show (w.heap ++ os)[k]? = w.heap[k]?
    rw [Array.getElem?_append_left hk]⟩
theorem itoa_any (n : Nat) (hn : n ≤ 1000000000) (w : World) (h : Pow w) : Calls Tryd.prog 19 #[.int .i64 n] w fun e w' => e = .returned (.string ⟨(Lib.decDigits n).toArray⟩) ∧ Below w.heap.size w w' := by
  refine (Tryd.strconv_Itoa n (by omega) (by omega) w h).mono ?_
  rintro e w' ⟨rfl, k, os, rfl⟩
  rw [Lib.itoa_nonneg]
  exact ⟨rfl, below_grow w k os⟩
theorem bs_eq {a : ByteArray} {l : List UInt8} (h : a.data.toList = l) : Ending.returned (Value.string a) = .returned (.string ⟨l.toArray⟩) := by
  subst h
  rfl
theorem cells_snoc (l : List UInt8) (u : Nat) (h : u < 10) : Lib.byteCells l ++ [.int .u8 (48 + (u : Int))] = Lib.byteCells (l ++ [UInt8.ofNat (48 + u)]) := by
  simp [Lib.byteCells]
  have := dig_of u h
  simp only [UInt8.toNat_ofNat'] at this
  omega
set_option maxHeartbeats 4000000 in
set_option maxRecDepth 100000 in
theorem text_any (x : Int) (w : World) (hp : Pow w) : Calls Tryd.prog 6 #[.int .i64 x] w fun e w' => e = .returned (.string ⟨(textOf (clamp x)).toArray⟩) ∧ Below w.heap.size w w' := by
  obtain ⟨c, hc⟩ : ∃ c, clamp x = c := ⟨_, rfl⟩
  have hb1 := clamp_lo x; have hb2 := clamp_hi x
  rw [hc] at hb1 hb2 ⊢
  have HC := Lib.hid hc
  clear hc
  by_cases h0 : c < 0
  · obtain ⟨n, rfl⟩ : ∃ n : Nat, c = -(n : Int) := ⟨c.natAbs, by omega⟩
    have HT : Hid (textOf (-(n : Int)) = 45 :: natText n) := Lib.hid (by unfold textOf; rw [if_pos h0]; congr 2; omega)
    have hdl : (Lib.decDigits (n / 256)).length ≤ 8 := dd_len 7 (n / 256) (by omega)
    have hml : n % 256 < 256 := Nat.mod_lt _ (by decide)
    by_cases hm : n % 256 = 0
    · have HM := Lib.hid hm
      have hmi : (n : Int) % 256 = 0 := by omega
      clear hm
      go_enter Tryd.func6, Tryd.ntmps6
      go_wp2_with (first | (go_at_call 12; refine (clamp_any _ _).mono ?_; rintro e w' ⟨rfl, rfl⟩; rw [HC.out]) | (go_at_call 19; refine (itoa_any (n / 256) (by omega) w hp).mono ?_; rintro e w1 ⟨rfl, hb3⟩))
      go_ret
      refine ⟨?_, hb3⟩
      rw [HT.out]
      unfold natText
      rw [if_pos HM.out]
      exact bs_eq (by simp)
    · obtain ⟨r0, hr0⟩ : ∃ r0, n % 256 = r0 := ⟨_, rfl⟩
      have hri : (n : Int) % 256 = r0 := by omega
      have hi2 : 0 < (n : Int) % 256 := by omega
      have HRI := Lib.hid hri
      have HR := Lib.hid hr0
      rw [hr0] at hm hml
      clear hr0 hri
      go_enter Tryd.func6, Tryd.ntmps6
      go_wp2_with (first | (go_at_call 12; refine (clamp_any _ _).mono ?_; rintro e w' ⟨rfl, rfl⟩; rw [HC.out]) | (go_at_call 19; refine (itoa_any (n / 256) (by omega) w hp).mono ?_; rintro e w1 ⟨rfl, hb3⟩))
      go_loopw [4] (fun i wr => ∃ (r : Nat) (l : List UInt8), i = .int .i64 r ∧ Hid (r < 256) ∧ Hid (l ++ frac r = frac r0 ∧ l.length + (frac r).length ≤ 8) ∧ Lib.IsBuilder 49 5 w1.heap.size w1.heap.size (Lib.byteCells l) wr ∧ Below w1.heap.size w1 wr) (fun i _ => (frac (intOf i).toNat).length)
      case atStart => exact ⟨r0, [], by rw [HRI.out], Lib.hid hml, Lib.hid ⟨rfl, by simpa using frac_len hml⟩, Lib.fresh_isBuilder _ _ _, (Below.refl _ w1).alloc (Nat.le_refl _) _⟩
      case round =>
        obtain ⟨r, l, rfl, hr, HL, hI, hb⟩ := hrel
        have hr2 := hr.out
        have hll : l.length ≤ 8 := by have := HL.out.2; omega
        by_cases hz : 0 < r
        · have hzi : (0 : Int) < (r : Int) := by omega
          have hst := Lib.hid (frac_step hr2 hz)
          go_wp2_with fail
          refine (writeByte_any w1.heap.size w1.heap.size _ _ _ hI (by rw [Lib.byteCells_length]; omega) hb.size).mono ?_
          rintro e w2 ⟨rfl, hI1, hb1⟩
          go_wp2
          go_roundw
          case rel =>
            refine ⟨r * 10 % 256, l ++ [UInt8.ofNat (48 + r * 10 / 256)], by go_num, Lib.hid (Nat.mod_lt _ (by decide)), Lib.hid ⟨?_, ?_⟩, .inr ?_, hb.trans hb1⟩
            · rw [← HL.out.1, hst.out.1, List.append_assoc]; rfl
            · have h1 := HL.out.2
              have h2 := hst.out.2
              rw [List.length_append]
              simp only [List.length_singleton]
              omega
            · have := cells_snoc l (r * 10 / 256) (by omega)
              rw [← this]
              exact hI1
          case measure =>
            have h2 := hst.out.2
            have e1 : (intOf (.int .i64 ((r : Int) * 10 % 256))).toNat = r * 10 % 256 := by simp only [intOf]; omega
            have e2 : (intOf (.int .i64 (r : Int))).toNat = r := by simp only [intOf]; omega
            rw [e1, e2]; exact h2
        · obtain rfl : r = 0 := by omega
          have hl1 : l = frac r0 := by
            have := HL.out.1
            rwa [frac_zero, List.append_nil] at this
          have hln : l ≠ [] := by rw [hl1]; exact frac_ne hml (by omega)
          have HL1 := Lib.hid hl1
          have HL2 := Lib.hid hln
          clear hl1 hln
          go_wp2_with fail
          refine (builder_String w1.heap.size w1.heap.size l _ hI HL2.out).mono ?_
          rintro e w2 ⟨rfl, hb1⟩
          go_wp2
          go_ret
          refine ⟨?_, hb3.trans ((hb.trans hb1).mono hb3.size)⟩
          rw [HT.out]
          unfold natText
          rw [HR.out, if_neg hm, ← HL1.out]
          exact bs_eq (by simp)
  · obtain ⟨n, rfl⟩ : ∃ n : Nat, c = (n : Int) := ⟨c.toNat, by omega⟩
    have HT : Hid (textOf (n : Int) = natText n) := Lib.hid (by unfold textOf; rw [if_neg h0]; congr 1)
    have hdl : (Lib.decDigits (n / 256)).length ≤ 8 := dd_len 7 (n / 256) (by omega)
    have hml : n % 256 < 256 := Nat.mod_lt _ (by decide)
    by_cases hm : n % 256 = 0
    · have HM := Lib.hid hm
      have hmi : (n : Int) % 256 = 0 := by omega
      clear hm
      go_enter Tryd.func6, Tryd.ntmps6
      go_wp2_with (first | (go_at_call 12; refine (clamp_any _ _).mono ?_; rintro e w' ⟨rfl, rfl⟩; rw [HC.out]) | (go_at_call 19; refine (itoa_any (n / 256) (by omega) w hp).mono ?_; rintro e w1 ⟨rfl, hb3⟩))
      go_ret
      refine ⟨?_, hb3⟩
      rw [HT.out]
      unfold natText
      rw [if_pos HM.out]
      exact bs_eq (by simp)
    · obtain ⟨r0, hr0⟩ : ∃ r0, n % 256 = r0 := ⟨_, rfl⟩
      have hri : (n : Int) % 256 = r0 := by omega
      have hi2 : 0 < (n : Int) % 256 := by omega
      have HRI := Lib.hid hri
      have HR := Lib.hid hr0
      rw [hr0] at hm hml
      clear hr0 hri
      go_enter Tryd.func6, Tryd.ntmps6
      go_wp2_with (first | (go_at_call 12; refine (clamp_any _ _).mono ?_; rintro e w' ⟨rfl, rfl⟩; rw [HC.out]) | (go_at_call 19; refine (itoa_any (n / 256) (by omega) w hp).mono ?_; rintro e w1 ⟨rfl, hb3⟩))
      go_loopw [4] (fun i wr => ∃ (r : Nat) (l : List UInt8), i = .int .i64 r ∧ Hid (r < 256) ∧ Hid (l ++ frac r = frac r0 ∧ l.length + (frac r).length ≤ 8) ∧ Lib.IsBuilder 49 5 w1.heap.size w1.heap.size (Lib.byteCells l) wr ∧ Below w1.heap.size w1 wr) (fun i _ => (frac (intOf i).toNat).length)
      case atStart => exact ⟨r0, [], by rw [HRI.out], Lib.hid hml, Lib.hid ⟨rfl, by simpa using frac_len hml⟩, Lib.fresh_isBuilder _ _ _, (Below.refl _ w1).alloc (Nat.le_refl _) _⟩
      case round =>
        obtain ⟨r, l, rfl, hr, HL, hI, hb⟩ := hrel
        have hr2 := hr.out
        have hll : l.length ≤ 8 := by have := HL.out.2; omega
        by_cases hz : 0 < r
        · have hzi : (0 : Int) < (r : Int) := by omega
          have hst := Lib.hid (frac_step hr2 hz)
          go_wp2_with fail
          refine (writeByte_any w1.heap.size w1.heap.size _ _ _ hI (by rw [Lib.byteCells_length]; omega) hb.size).mono ?_
          rintro e w2 ⟨rfl, hI1, hb1⟩
          go_wp2
          go_roundw
          case rel =>
            refine ⟨r * 10 % 256, l ++ [UInt8.ofNat (48 + r * 10 / 256)], by go_num, Lib.hid (Nat.mod_lt _ (by decide)), Lib.hid ⟨?_, ?_⟩, .inr ?_, hb.trans hb1⟩
            · rw [← HL.out.1, hst.out.1, List.append_assoc]; rfl
            · have h1 := HL.out.2
              have h2 := hst.out.2
              rw [List.length_append]
              simp only [List.length_singleton]
              omega
            · have := cells_snoc l (r * 10 / 256) (by omega)
              rw [← this]
              exact hI1
          case measure =>
            have h2 := hst.out.2
            have e1 : (intOf (.int .i64 ((r : Int) * 10 % 256))).toNat = r * 10 % 256 := by simp only [intOf]; omega
            have e2 : (intOf (.int .i64 (r : Int))).toNat = r := by simp only [intOf]; omega
            rw [e1, e2]; exact h2
        · obtain rfl : r = 0 := by omega
          have hl1 : l = frac r0 := by
            have := HL.out.1
            rwa [frac_zero, List.append_nil] at this
          have hln : l ≠ [] := by rw [hl1]; exact frac_ne hml (by omega)
          have HL1 := Lib.hid hl1
          have HL2 := Lib.hid hln
          clear hl1 hln
          go_wp2_with fail
          refine (builder_String w1.heap.size w1.heap.size l _ hI HL2.out).mono ?_
          rintro e w2 ⟨rfl, hb1⟩
          go_wp2
          go_ret
          refine ⟨?_, hb3.trans ((hb.trans hb1).mono hb3.size)⟩
          rw [HT.out]
          unfold natText
          rw [HR.out, if_neg hm, ← HL1.out]
          exact bs_eq (by simp)
end Go.Proofs.YtchngeagnlngaaaDoor
