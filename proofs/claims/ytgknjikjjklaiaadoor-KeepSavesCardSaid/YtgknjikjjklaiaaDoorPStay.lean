/- Plain: what a step leaves as it is. No program in sight. -/
import Derived.Test.YtgknjikjjklaiaaDoorPStep
import Derived.Test.YtgknjikjjklaiaaDoorPLaws
import Derived.Test.YtgknjikjjklaiaaDoorBaseP
set_option linter.unusedVariables false
set_option linter.unusedSimpArgs false
namespace Gal
theorem nought_mul_left (a : Int) : mul 0 a = 0 := by rw [swap_mul, nought_mul]
theorem sub_nought {a : Int} (h : clamp a = a) : sub a 0 = a := by
  unfold sub
  rw [h, clamp_zero, Int.sub_zero, h]
theorem fault_ends {m : Mat} (h : m.fault = 0) : inEnds m.cells := by
  obtain ⟨R, C, _, _, _, _, _, he⟩ := matFault_ok h
  exact he
def zeroMat (m : Mat) : Mat := ⟨m.rows, m.cols, zeros m.cells.length⟩
def zeroGrd (l : Lay) : Grd := ⟨zeroMat l.W, zeroMat l.B⟩
def zeroNet (ls : List Lay) : List Grd := ls.map zeroGrd
theorem zeroNet_length (ls : List Lay) : (zeroNet ls).length = ls.length := by simp [zeroNet]
theorem zeroNet_gx (ls : List Lay) (k : Nat) : gx (zeroNet ls) k = zeroGrd (lx ls k) := by
  unfold gx lx zeroNet
  rw [List.getElem?_map]
  cases ls[k]? with
  | some l => rfl
  | none => rfl
theorem zeroMat_fault {m : Mat} (h : m.fault = 0) : (zeroMat m).fault = 0 := by
  obtain ⟨R, C, hr, hc, hR, hC, hl, he⟩ := matFault_ok h
  show matFault m.rows m.cols (zeros m.cells.length) = 0
  rw [hr, hc]
  exact matFault_zero hR hC (by rw [zeros_length]; exact hl) (zeros_inEnds _)
theorem fits_mk {l : Lay} {v d : Grd} (h0 : l.fault = 0) (h1 : v.W.fault = 0) (h2 : v.B.fault = 0) (h3 : d.W.fault = 0) (h4 : d.B.fault = 0)
    (h5 : likeShape v.W l.W) (h6 : likeShape v.B l.B) (h7 : likeShape d.W l.W) (h8 : likeShape d.B l.B) : fitsFault l v d = 0 := by
  unfold fitsFault
  rw [if_neg (by simp [h0]), if_neg (by simp [h1]), if_neg (by simp [h2]), if_neg (by simp [h3]), if_neg (by simp [h4]), if_pos ⟨h5, h6, h7, h8⟩]
theorem fits_rest_v {l : Lay} {v d : Grd} (h : fitsFault l v d = 0) : fitsFault l (zeroGrd l) d = 0 := by
  obtain ⟨h0, h1, h2, h3, h4, h5, h6, h7, h8⟩ := fitsFault_ok h
  obtain ⟨_, _, hW, hB, _⟩ := Lay.fault_ok h0
  exact fits_mk h0 (zeroMat_fault hW) (zeroMat_fault hB) h3 h4 ⟨rfl, rfl⟩ ⟨rfl, rfl⟩ h7 h8
theorem fits_rest {l : Lay} {v d : Grd} (h : fitsFault l v d = 0) : fitsFault l (zeroGrd l) (zeroGrd l) = 0 := by
  obtain ⟨h0, h1, h2, h3, h4, h5, h6, h7, h8⟩ := fitsFault_ok h
  obtain ⟨_, _, hW, hB, _⟩ := Lay.fault_ok h0
  exact fits_mk h0 (zeroMat_fault hW) (zeroMat_fault hB) (zeroMat_fault hW) (zeroMat_fault hB) ⟨rfl, rfl⟩ ⟨rfl, rfl⟩ ⟨rfl, rfl⟩ ⟨rfl, rfl⟩
theorem stepFaultTo_all {ls : List Lay} {vs ds : List Grd} : ∀ {n : Nat}, stepFaultTo ls vs ds n = 0 → ∀ k, k < n → fitsFault (lx ls k) (gx vs k) (gx ds k) = 0
  | 0, _, k, hk => absurd hk (Nat.not_lt_zero _)
  | n + 1, h, k, hk => by
    have h' : stepFaultTo ls vs ds n = 0 := by
      by_cases q : stepFaultTo ls vs ds n = 0
      · exact q
      · exact absurd ((stepFaultTo_stop (Nat.le_succ n) q).symm.trans h) q
    rcases Nat.lt_or_ge k n with g | g
    · exact stepFaultTo_all h' k g
    · obtain rfl : k = n := by omega
      rw [stepFaultTo_succ h'] at h
      exact h
theorem stepFaultTo_none {ls : List Lay} {vs ds : List Grd} : ∀ {n : Nat}, (∀ k, k < n → fitsFault (lx ls k) (gx vs k) (gx ds k) = 0) → stepFaultTo ls vs ds n = 0
  | 0, _ => rfl
  | n + 1, h => by
    rw [stepFaultTo_succ (stepFaultTo_none fun k hk => h k (by omega))]
    exact h n (Nat.lt_succ_self n)
theorem stepFault_ok {ls : List Lay} {vs ds : List Grd} {ln kp : Int} (h : stepFault ls vs ds ln kp = 0) :
    (0 ≤ ln ∧ ln ≤ 256 ∧ 0 ≤ kp ∧ kp ≤ 256) ∧ ls.length ≤ 12 ∧ vs.length = ls.length ∧ ds.length = ls.length ∧ ∀ k, k < ls.length → fitsFault (lx ls k) (gx vs k) (gx ds k) = 0 := by
  unfold stepFault at h
  by_cases h1 : ln < 0 ∨ 256 < ln ∨ kp < 0 ∨ 256 < kp
  · rw [if_pos h1] at h; omega
  · rw [if_neg h1] at h
    by_cases h2 : 12 < ls.length
    · rw [if_pos h2] at h; omega
    · rw [if_neg h2] at h
      by_cases h3 : vs.length ≠ ls.length ∨ ds.length ≠ ls.length
      · rw [if_pos h3] at h; omega
      · rw [if_neg h3] at h
        exact ⟨by omega, by omega, by omega, by omega, stepFaultTo_all h⟩
theorem stepFault_none {ls : List Lay} {vs ds : List Grd} {ln kp : Int} (h1 : 0 ≤ ln ∧ ln ≤ 256 ∧ 0 ≤ kp ∧ kp ≤ 256) (h2 : ls.length ≤ 12) (h3 : vs.length = ls.length) (h4 : ds.length = ls.length)
    (h : ∀ k, k < ls.length → fitsFault (lx ls k) (gx vs k) (gx ds k) = 0) : stepFault ls vs ds ln kp = 0 := by
  unfold stepFault
  rw [if_neg (by omega), if_neg (by omega), if_neg (by omega)]
  exact stepFaultTo_none h
theorem stepTo_still {w v d : Mat} {kp : Int} (h : w.fault = 0) : stepTo w v d 0 kp = w := by
  have he := fault_ends h
  have : upto (fun k => sub (ix w.cells k) (mul (add (mul (ix v.cells k) kp) (ix d.cells k)) 0)) w.cells.length = w.cells :=
    (upto_congr fun k hk => by rw [nought_mul, sub_nought (he k hk)]).trans upto_self
  unfold stepTo
  rw [this]
theorem stepTo_first {w v v' d : Mat} {ln : Int} : stepTo w v d ln 0 = stepTo w v' d ln 0 := by
  unfold stepTo
  simp only [nought_mul]
theorem stepSpeed_first {w v v' d : Mat} : stepSpeed w v d 0 = stepSpeed w v' d 0 := by
  unfold stepSpeed
  simp only [nought_mul]
theorem add_noughts : add 0 0 = 0 := by unfold add; rw [clamp_zero]; exact clamp_zero
theorem stepTo_rest {w u t : Mat} {ln kp : Int} (h : w.fault = 0) : stepTo w (zeroMat u) (zeroMat t) ln kp = w := by
  have he := fault_ends h
  have : upto (fun k => sub (ix w.cells k) (mul (add (mul (ix (zeroMat u).cells k) kp) (ix (zeroMat t).cells k)) ln)) w.cells.length = w.cells :=
    (upto_congr fun k hk => by
      show sub (ix w.cells k) (mul (add (mul (ix (zeros _) k) kp) (ix (zeros _) k)) ln) = ix w.cells k
      rw [zeros_ix, zeros_ix, nought_mul_left, add_noughts, nought_mul_left, sub_nought (he k hk)]).trans upto_self
  unfold stepTo
  rw [this]
theorem stepSpeed_rest {w u t : Mat} {kp : Int} : stepSpeed w (zeroMat u) (zeroMat t) kp = zeroMat w := by
  have : upto (fun k => add (mul (ix (zeroMat u).cells k) kp) (ix (zeroMat t).cells k)) w.cells.length = zeros w.cells.length :=
    (upto_congr (g := ix (zeros w.cells.length)) fun k hk => by
      show add (mul (ix (zeros _) k) kp) (ix (zeros _) k) = _
      rw [zeros_ix, zeros_ix, zeros_ix, nought_mul_left, add_noughts]).trans (by have := upto_self (xs := zeros w.cells.length); rwa [zeros_length] at this)
  unfold stepSpeed zeroMat
  rw [← this]
  rfl
theorem lays_self {ls : List Lay} : (List.range ls.length).map (lx ls) = ls := by
  apply List.ext_getElem?
  intro i
  rw [List.getElem?_map]
  by_cases h : i < ls.length
  · rw [List.getElem?_range h, lx_get h]; rfl
  · rw [List.getElem?_eq_none (by simp; omega), List.getElem?_eq_none (by omega)]; rfl
theorem range_congr {α : Type} {f g : Nat → α} {n : Nat} (h : ∀ k, k < n → f k = g k) : (List.range n).map f = (List.range n).map g :=
  List.map_congr_left fun k hk => h k (List.mem_range.1 hk)
section
variable {ls : List Lay} {vs ds : List Grd} {ln kp : Int} (h : stepFault ls vs ds ln kp = 0)
include h
theorem stays_learn : stepFault ls vs ds 0 kp = 0 ∧ stepLays ls vs ds 0 kp ls.length = ls := by
  obtain ⟨h1, h2, h3, h4, h5⟩ := stepFault_ok h
  refine ⟨stepFault_none (by omega) h2 h3 h4 h5, (range_congr fun k hk => ?_).trans lays_self⟩
  obtain ⟨g0, _⟩ := fitsFault_ok (h5 k hk)
  obtain ⟨_, _, hW, hB, _⟩ := Lay.fault_ok g0
  unfold stepLay
  rw [stepTo_still hW, stepTo_still hB]
theorem stays_first : stepFault ls vs ds ln 0 = 0 ∧ stepFault ls (zeroNet ls) ds ln 0 = 0 ∧ stepLays ls (zeroNet ls) ds ln 0 ls.length = stepLays ls vs ds ln 0 ls.length ∧ stepGrds ls (zeroNet ls) ds 0 ls.length = stepGrds ls vs ds 0 ls.length := by
  obtain ⟨h1, h2, h3, h4, h5⟩ := stepFault_ok h
  refine ⟨stepFault_none (by omega) h2 h3 h4 h5, stepFault_none (by omega) h2 (zeroNet_length _) h4 fun k hk => by rw [zeroNet_gx]; exact fits_rest_v (h5 k hk), range_congr fun k hk => ?_, range_congr fun k hk => ?_⟩
  · unfold stepLay
    rw [stepTo_first (v := (gx (zeroNet ls) k).W) (v' := (gx vs k).W), stepTo_first (v := (gx (zeroNet ls) k).B) (v' := (gx vs k).B)]
  · unfold stepGrd
    rw [stepSpeed_first (v := (gx (zeroNet ls) k).W) (v' := (gx vs k).W), stepSpeed_first (v := (gx (zeroNet ls) k).B) (v' := (gx vs k).B)]
theorem stays_rest : stepFault ls (zeroNet ls) (zeroNet ls) ln kp = 0 ∧ stepLays ls (zeroNet ls) (zeroNet ls) ln kp ls.length = ls ∧ stepGrds ls (zeroNet ls) (zeroNet ls) kp ls.length = zeroNet ls := by
  obtain ⟨h1, h2, h3, h4, h5⟩ := stepFault_ok h
  refine ⟨stepFault_none (by omega) h2 (zeroNet_length _) (zeroNet_length _) fun k hk => by rw [zeroNet_gx]; exact fits_rest (h5 k hk), (range_congr fun k hk => ?_).trans lays_self, ?_⟩
  · obtain ⟨g0, _⟩ := fitsFault_ok (h5 k hk)
    obtain ⟨_, _, hW, hB, _⟩ := Lay.fault_ok g0
    rw [zeroNet_gx]
    unfold stepLay zeroGrd
    rw [stepTo_rest hW, stepTo_rest hB]
  · have e : zeroNet ls = (List.range ls.length).map fun k => zeroGrd (lx ls k) := by
      unfold zeroNet
      conv => lhs; rw [← lays_self (ls := ls)]
      rw [List.map_map]
      rfl
    rw [e]
    refine range_congr fun k hk => ?_
    rw [← e, zeroNet_gx]
    unfold stepGrd zeroGrd
    rw [stepSpeed_rest, stepSpeed_rest]
end
def factG : Grd := ⟨⟨1, 1, [512]⟩, Mat.none⟩
theorem step_fact : stepFault [oneL] (zeroNet [oneL]) [factG] 128 0 = 0 := by decide +kernel
theorem step_fact_is : stepLays [oneL] (zeroNet [oneL]) [factG] 128 0 1 = [⟨3, ⟨1, 1, [0]⟩, Mat.none⟩] := rfl
end Gal
