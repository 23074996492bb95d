/- Texts joined: PAlone. -/
import Derived.Test.YtchngeagnlngaaaJ10
section
set_option linter.unusedVariables false
set_option linter.unusedSimpArgs false
namespace Gal
theorem sizesOf_one (r : Nat) : sizesOf r 1 = [r] := by simp [sizesOf]
theorem rows_whole {m : Mat} (h : m.fault = 0) : matRows m ((0 : Nat) : Int) ((m.rows.toNat : Nat) : Int) = m := by
 obtain ⟨R, K, xs, rfl, _, _, hl, _⟩ := mat_form h
 dsimp only
 rw [Int.toNat_natCast]
 refine (rows_top (Nat.le_refl R) hl).trans ?_
 unfold topOf
 rw [List.take_of_length_le (by omega)]
theorem part_one {b : Bat} (h : b.fault = 0) : partOf b (sizesIn b 1) 0 = b := by
 obtain ⟨h1, h2, h3, h4⟩ := Bat.fault_ok h
 unfold sizesIn partOf
 rw [show (1 : Int).toNat = 1 from rfl, sizesOf_one]
 show (⟨matRows b.I ((0 : Nat) : Int) ((0 + b.I.rows.toNat : Nat) : Int), matRows b.W ((0 : Nat) : Int) ((0 + b.I.rows.toNat : Nat) : Int)⟩ : Bat) = b
 rw [Nat.zero_add, rows_whole h1, h3, rows_whole h2]
theorem zero_add_mat {m w : Mat} (hm : m.fault = 0) (hw : w.fault = 0) (hs : likeShape m w) : matAdd (zeroMat w) m = m := by
 obtain ⟨R, K, xs, rfl, _, _, hl, he⟩ := mat_form hm
 obtain ⟨R', K', ys, rfl, _, _, hl', _⟩ := mat_form hw
 obtain ⟨e1, e2⟩ := hs
 dsimp only at e1 e2
 obtain rfl : R = R' := by omega
 obtain rfl : K = K' := by omega
 unfold matAdd zeroMat
 dsimp only
 congr 1
 rw [zeros_length, show ys.length = xs.length by rw [hl, hl']]
 refine (upto_congr (g := ix xs) fun k hk => ?_).trans upto_self
 rw [zeros_ix, swap_add, nought_add, he k hk]
theorem grds_self {ds : List Grd} : (List.range ds.length).map (gx ds) = ds := by
 apply List.ext_getElem?
 intro i
 rw [List.getElem?_map]
 by_cases h : i < ds.length
 ·rw [List.getElem?_range h, gx_get h]; rfl
 ·rw [List.getElem?_eq_none (by simp; omega), List.getElem?_eq_none (by omega)]; rfl
theorem gather_zero {N : List Lay} {ds : List Grd} (hN : ∀ k, k < N.length → (lx N k).fault = 0) (h : listFits N ds) : gatherTo (zeroNet N) ds (zeroNet N).length = ds := by
 obtain ⟨hl, hf⟩ := h
 rw [zeroNet_length, ← hl]
 conv => rhs; rw [← grds_self (ds := ds)]
 refine range_congr fun k hk => ?_
 obtain ⟨a1, a2, a3, a4⟩ := hf k (by omega)
 obtain ⟨_, _, f3, f4, _⟩ := Lay.fault_ok (hN k (by omega))
 rw [zeroNet_gx]
 unfold pairSum zeroGrd
 dsimp only
 rw [zero_add_mat a1 f3 a3, zero_add_mat a2 f4 a4]
theorem one_alone {s : Sta} {b : Bat} {ln kp : Int} (h : oneFault s b 1 ln kp = 0) :
  byTo s.N b (sizesIn b 1) (1 : Int).toNat = partTurn s.N b ∧ oneOff s b 1 = partOff s.N b ∧ PartOk s.N b := by
 have hone := oneFault_ok h
 have hN : ∀ k, k < s.N.length → (lx s.N k).fault = 0 := (Sta.fault_ok hone.1).2.2.2.1
 have hp := one_parts h 0 (by decide)
 have hb := part_one (splitFault_ok hone.2.1).1
 rw [hb] at hp
 refine ⟨?_, ?_, hp⟩
 ·show gatherTo (zeroNet s.N) (partTurn s.N (partOf b (sizesIn b 1) 0)) (zeroNet s.N).length = _
  rw [hb]
  exact gather_zero hN hp.turn
 ·show add 0 (partOff s.N (partOf b (sizesIn b 1) 0)) = _
  rw [hb, swap_add, nought_add]
  exact clamp_clamp _
end Gal
end
