/- Contracts of the reference: CostOf. -/
import Derived.Test.YtjaepdkeldgikaaDoorRCut1
set_option linter.unusedVariables false
set_option linter.unusedSimpArgs false
set_option linter.unusedSectionVars false
namespace Go.Proofs.YtjaepdkeldgikaaDoor
open Go.RowKit Gal
set_option maxRecDepth 100000
set_option maxHeartbeats 2000000
theorem refCostOf_ok (xs : List Int) (es : List Nat) (a a' : Option Addr) (n m k k' b b' o o' : Nat) (w : World) (h : IntsAt w a n k b o xs) (h' : IntsAt w a' m k' b' o' (ints es)) (hx : ∀ i, 0 ≤ ix xs i ∧ ix xs i ≤ 1000000) (hn : n ≤ 12) (hes : Chain n 0 es) :
    Calls Tryd.prog 24 #[.slice a n k, .slice a' m k'] w fun e w' => ∃ a1 k1 b1, e = .returned (.slice a1 m k1) ∧ (0 < m → w.heap.size ≤ b1) ∧ IntsAt w' a1 m k1 b1 0 (costsOf (ix xs) 0 es) ∧ Below w.heap.size w w' := by
  obtain ⟨i0, hi, hz0, hz1, hz2⟩ := info_parts info_int'
  have hl' := h'.len
  rw [ints_length] at hl'
  have hm12 : m ≤ 12 := by
    have h1 := (chain_cw hes).1
    have h2 : ∀ j, j ≤ es.length → j ≤ cw 0 es j := fun j hj => by
      induction j with
      | zero => exact Nat.zero_le _
      | succ j ih => have := ih (by omega); have := (h1 j (by omega)).1; omega
    have h3 := h2 es.length (Nat.le_refl _)
    rw [(chain_cw hes).2] at h3
    omega
  obtain ⟨l, hlq⟩ : ∃ l, costsOf (ix xs) 0 es = l := ⟨_, rfl⟩
  have hll : l.length = m := by rw [← hlq, costsOf_length, hl']
  have hlx : ∀ j, j < m → ix l j = sg (ix xs) (cw 0 es j) (cw 0 es (j + 1) - cw 0 es j) := fun j hj => by rw [← hlq]; exact costsOf_ix es 0 j (by omega)
  have hch : ∀ j, j < m → cw 0 es j < cw 0 es (j + 1) ∧ cw 0 es (j + 1) ≤ n := fun j hj => (chain_cw hes).1 j (by omega)
  rw [hlq]
  have HX := Lib.hid hx
  have HLX := Lib.hid hlx
  have HLL := Lib.hid hll
  have HCH := Lib.hid hch
  clear hx hlx hll hch hes hl' hlq
  go_enter Tryd.func24, Tryd.ntmps24
  go_wp2
  go_loopw [5, 6, 7] (fun v f i wr => ∃ (t : Nat) (v0 : Value), v0 = v ∧ t ≤ m ∧ i = .int .i64 t ∧ f = .int .i64 (cw 0 es t) ∧ wr.ownsRow w.heap.size 3 1 v0 t ((l.take t).map (Value.int .i64)) ∧ Below w.heap.size w wr) (fun _ _ i _ => m - (intOf i).toNat)
  case atStart => exact ⟨0, _, rfl, Nat.zero_le _, rfl, rfl, World.ownsRow_nil _ _ _ _, (by repeat (first | fail | (with_reducible exact Below.refl _ _) | (with_reducible refine Below.al ?_ _) | (with_reducible refine Below.drN ?_ _) | (with_reducible refine Below.drew ?_) | (with_reducible refine Below.st ?_ ?_ _; rotate_left 1; (first | (dsimp only; omega) | omega | (simp; omega) | simp)) | exact Below.refl _ _))⟩
  case round =>
    obtain ⟨t, v, rfl, ht, rfl, rfl, hown, hbr⟩ := hrel
    by_cases hlt : t < m
    · obtain rfl := h'.ptr (by omega)
      have hyc := (h'.keep hbr).cell t hlt
      have hch := HCH.out t hlt
      obtain ⟨p, hp⟩ : ∃ p, cw 0 es t = p := ⟨_, rfl⟩
      obtain ⟨q, hq⟩ : ∃ q, cw 0 es (t + 1) = q := ⟨_, rfl⟩
      rw [ints_ix, ← cw_is es 0 t, hq] at hyc
      rw [hp, hq] at hch
      rw [hp]
      obtain ⟨hpq, hqn⟩ := hch
      have HLT : Hid (ix l t = sg (ix xs) p (q - p)) := Lib.hid (by rw [HLX.out t hlt, hp, hq])
      have HQ := Lib.hid hq
      clear hp hq
      obtain rfl := h.ptr (by omega)
      go_wp2
      go_loop [8, 9] (fun s j => ∃ d : Nat, p + d ≤ q ∧ j = .int .i64 ((p + d : Nat) : Int) ∧ s = .int .i64 (sg (ix xs) p d)) (fun _ j => q - (intOf j).toNat)
      case atStart => exact ⟨0, by omega, rfl, rfl⟩
      case round =>
        obtain ⟨d, hd, rfl, rfl⟩ := hrel
        obtain ⟨z, hz⟩ : ∃ z, p + d = z := ⟨_, rfl⟩
        rw [hz] at hd ⊢
        have hsb := sg_bd HX.out p d
        obtain ⟨u0, hu0⟩ : ∃ u0, sg (ix xs) p d = u0 := ⟨_, rfl⟩
        rw [hu0] at hsb ⊢
        have hsb1 : 0 ≤ u0 := hsb.1
        have hsb2 : u0 ≤ 12000000 := by omega
        by_cases hzq : z < q
        · have hc := (h.keep hbr).cell z (by omega)
          obtain ⟨c0, hc0⟩ : ∃ c0, ix xs z = c0 := ⟨_, rfl⟩
          obtain ⟨hx1, hx2⟩ := HX.out z
          rw [hc0] at hc hx1 hx2
          have HD : Hid (p + (d + 1) = z + 1 ∧ sg (ix xs) p (d + 1) = u0 + c0) := Lib.hid ⟨by omega, by rw [sg_succ, hu0, hz, hc0]⟩
          have hzn : (z : Int) < (n : Int) := by omega
          have hz0 : (0 : Int) ≤ (z : Int) := by omega
          clear hc0 hu0 hz hsb
          go_wp2
          go_round
          case rel => exact ⟨d + 1, by rw [HD.out.1]; omega, by rw [HD.out.1]; go_num, by rw [HD.out.2]⟩
          case measure => simp [intOf]; omega
        · obtain rfl : q = z := by omega
          have HU : Hid (ix l t = u0) := Lib.hid (by rw [HLT.out, ← hu0, show q - p = d by omega])
          clear hu0 hsb hz hd
          have hlen : (l.take t).length = t := by rw [List.length_take, HLL.out]; omega
          have HLEN := Lib.hid hlen
          clear hlen
          go_wp2_with (at_builtin; (refine wpList_append_ints rfl (.tmp 31) (.tmp 33) 39 rfl w.heap.size 3 i0 Tryd.underlying39 hi hz0 hz1 hz2 _ t (l.take t) rfl (hown.alloc _) _ 1 1 wr.heap.size 0 [u0] rfl (ints1 (Box.new _ _ 3)) (by omega) (by have := hbr.size; simp; omega) ?_))
          intro v' w' hown' hgrow'
          have hbn : Below w.heap.size w w' := Below.grown (Below.al hbr _) hgrow' (by have := hbr.size; simp; omega) (fun k hk => (hown.lt k hk).1)
          replace hyc := (h'.keep hbn).cell t hlt
          rw [ints_ix, ← cw_is es 0 t, HQ.out] at hyc
          go_wp2
          go_roundw
          case rel => exact ⟨t + 1, v', rfl, by omega, by go_num, by rw [HQ.out], by
            rw [take_next (by rw [HLL.out]; exact hlt), HU.out, List.map_append, List.map_take]
            exact hown', hbn⟩
          case measure => simp [intOf]; omega
    · obtain rfl : m = t := by omega
      rw [List.take_of_length_le (by rw [HLL.out]; exact Nat.le_refl _)] at hown
      obtain ⟨a1, k1, b1, hv, hb1, hi1⟩ := IntsAt.of_own hown
      have HV := Lib.hid hv
      clear hv
      go_wp2
      go_ret
      exact ⟨a1, k1, b1, by rw [HV.out]; rfl, hb1, hi1, hbr⟩
end Go.Proofs.YtjaepdkeldgikaaDoor
