/- Contracts of package keep: the pen's matrix. -/
import Derived.Test.YtgknjikjjklaiaaDoorKeep1
import Derived.Test.YtgknjikjjklaiaaDoorPKeep
import Derived.Test.YtgknjikjjklaiaaDoorWire2
set_option linter.unusedVariables false
set_option linter.unusedSimpArgs false
set_option linter.unusedSectionVars false
set_option maxRecDepth 100000
namespace Gal
open Go Go.RowKit
theorem matNums_len (m : Mat) : (matNums m).length = 2 + m.cells.length := by unfold matNums; simp; omega
theorem matNums_cell {m : Mat} {t : Nat} (h : t < m.cells.length) : (matNums m)[2 + t]? = some (zigOf (ix m.cells t)) := by
  unfold matNums
  rw [List.getElem?_append_right (by simp)]
  simp [ix, h]
theorem mat_small {m : Mat} (h : m.fault = 0) : (0 ≤ m.rows ∧ m.rows ≤ 24) ∧ (0 ≤ m.cols ∧ m.cols ≤ 12) ∧ m.cells.length ≤ 288 ∧ ∀ x ∈ m.cells, -2147483647 ≤ x ∧ x ≤ 2147483647 := by
  obtain ⟨h4, h5, h6, h7⟩ := matFault_0 (show matFault m.rows m.cols m.cells = 0 from h)
  have a1 : m.rows * m.cols ≤ 24 * m.cols := Int.mul_le_mul_of_nonneg_right h4.2 h5.1
  exact ⟨h4, h5, by omega, ends_mem h7⟩
theorem matNums_lt {m : Mat} (h : m.fault = 0) : ∀ x ∈ matNums m, x < 4294967295 := fun x hx => by
  obtain ⟨h1, h2, _, h3⟩ := mat_small h
  unfold matNums at hx
  rcases List.mem_append.1 hx with hx | hx
  · simp only [List.mem_cons, List.not_mem_nil, or_false] at hx
    omega
  · obtain ⟨y, hy, rfl⟩ := List.mem_map.1 hx
    exact zig_lt (h3 y hy)
theorem matNums_take_len {m : Mat} (h : m.fault = 0) (t : Nat) : (((matNums m).take t).flatMap seven).length ≤ 2610 := by
  have h1 := sevens_len (l := (matNums m).take t) fun x hx => by have := matNums_lt h x (List.mem_of_mem_take hx); omega
  have h2 : ((matNums m).take t).length ≤ 290 := by
    rw [List.length_take, matNums_len]
    have := (mat_small h).2.2.1
    omega
  omega
/-- a block that the pen leaves alone -/
def Apart (R : Nat) (v : Value) (p : Nat) : Prop := p ≠ R ∧ v.ownBlock ≠ some p
theorem PenGo.apart {R p : Nat} {w w' : World} {v v' : Value} (k : PenGo R w w' v v') (h : Apart R v p) (hp : p < w.heap.size) : Apart R v' p := ⟨h.1, fun e => by
  rcases k.own p e with h1 | h1
  · exact h.2 h1
  · omega⟩
theorem Box.pen {R p : Nat} {w w' : World} {v v' : Value} {cs : List Value} {T : TypeId} (h : Box w p cs T) (k : PenGo R w w' v v') (ha : Apart R v p) : Box w' p cs T := h.farS k.far (by
  rintro (h1 | h1)
  · exact ha.1 h1
  · exact ha.2 h1)
theorem ints_farS {S : Nat → Prop} {w w' : World} {a : Option Addr} {n cap b off : Nat} {xs : List Int} (h : IntsAt w a n cap b off xs) (hf : Far S w w') (hs : 0 < n → ¬ S b) : IntsAt w' a n cap b off xs :=
  ⟨h.len, h.le, h.maxc, h.ptr, fun hn => Nat.lt_of_lt_of_le (h.lt hn) hf.size, fun i hi => (World.cell?_of_block (a := ⟨b, off + i, none⟩) (hf.block b (h.lt (by omega)) (hs (by omega)))).trans (h.cell i hi)⟩
theorem IntsAt.pen {R : Nat} {w w' : World} {v v' : Value} {a : Option Addr} {n cap b off : Nat} {xs : List Int} (h : IntsAt w a n cap b off xs) (k : PenGo R w w' v v') (ha : 0 < n → Apart R v b) : IntsAt w' a n cap b off xs := ints_farS h k.far (fun h0 => by
  rintro (h1 | h1)
  · exact (ha h0).1 h1
  · exact (ha h0).2 h1)
end Gal
namespace Go.Proofs.YtgknjikjjklaiaaDoor
open Go.RowKit Gal
set_option maxHeartbeats 4000000
theorem PenAt.keep {w w' : World} {R base : Nat} {v : Value} {xs : List Nat} (h : PenAt w R base v xs) (hb : Below w.heap.size w w') : PenAt w' R base v xs := ⟨h.1.keep hb, h.2.1.keep hb, h.2.2⟩
/-- a block made behind the pen -/
theorem PenAt.apart {w : World} {R base p : Nat} {v : Value} {xs : List Nat} (h : PenAt w R base v xs) (hp : w.heap.size ≤ p) : Apart R v p := ⟨fun e => by have := h.1.lt; omega, fun e => by have := (h.2.1.base_le p e).2; omega⟩
theorem penMatrix_any (m : Mat) (a : Option Addr) (n k b o : Nat) (xs : List Nat) (v : Value) (R base : Nat) (w : World) (hm : IntsAt w a n k b o m.cells) (hf : m.fault = 0) (hp : PenAt w R base v xs) (hne : 0 < n → Apart R v b) (hlen : xs.length ≤ 500000) (hbase : base ≤ w.heap.size) :
    Calls Tryd.prog 47 #[.pointer (some ⟨R, 0, none⟩), .agg #[.int .i64 m.rows, .int .i64 m.cols, .slice a n k]] w fun e w' => ∃ v', e = .returned (.tuple #[]) ∧ PenAt w' R base v' (xs ++ (matNums m).flatMap seven) ∧ PenGo R w w' v v' := by
  obtain ⟨⟨r0, r1⟩, ⟨q0, q1⟩, hn, hE⟩ := mat_small hf
  have HL := Lib.hid hm.len
  have hlc : n ≤ 288 := by have := hm.len; omega
  have HTL : Hid (∀ t, (((matNums m).take t).flatMap seven).length ≤ 2610) := Lib.hid (matNums_take_len hf)
  have HE : Hid (∀ x ∈ m.cells, -2147483647 ≤ x ∧ x ≤ 2147483647) := Lib.hid hE
  obtain ⟨om, hom⟩ : ∃ om : Obj, Obj.cells #[.int .i64 m.rows, .int .i64 m.cols, .slice a n k] 24 = om := ⟨_, rfl⟩
  obtain ⟨w0, hw0⟩ : ∃ w0, w.alloc om = w0 := ⟨_, rfl⟩
  have hb0 : Below w.heap.size w w0 := by rw [← hw0]; exact (by repeat (first | fail | (with_reducible exact Below.refl _ _) | (with_reducible refine Below.al ?_ _) | (with_reducible refine Below.drN ?_ _) | (with_reducible refine Below.drew ?_) | (with_reducible refine Below.st ?_ ?_ _; rotate_left 1; (first | (dsimp only; omega) | omega | (simp; omega) | simp)) | exact Below.refl _ _))
  have hM0 : Box w0 w.heap.size [.int .i64 m.rows, .int .i64 m.cols, .slice a n k] 24 := by rw [← hw0, ← hom]; exact Box.new' _ _ [.int .i64 m.rows, .int .i64 m.cols, .slice a n k] _ rfl
  have hap := hp.apart (Nat.le_refl _)
  have hp0 := hp.keep hb0
  have hm0 := hm.keep hb0
  have hs0 : base ≤ w0.heap.size := Nat.le_trans hbase hb0.size
  have HW0 := Lib.hid hw0
  have HOM := Lib.hid hom
  clear hw0 hom hE hf hn hp hm
  have c0 := hM0.cell 0
  go_enter Tryd.func47, Tryd.ntmps47
  go_wp2_with fail
  rw [HOM.out, HW0.out]
  refine (penNumber_any xs m.rows v R base w0 ⟨r0, by omega⟩ hp0 (by omega) hs0).mono ?_
  rintro e w1 ⟨v1, rfl, hp1, hg1⟩
  have hM1 := hM0.pen hg1 hap
  have hm1 := hm0.pen hg1 hne
  have hap1 := hg1.apart hap (by have := hM0.lt; exact this)
  have hne1 : 0 < n → Apart R v1 b := fun h0 => hg1.apart (hne h0) (hm0.lt h0)
  have hs1 : base ≤ w1.heap.size := Nat.le_trans hs0 hg1.far.size
  have hsv := seven_9 (x := m.rows.toNat) (by omega)
  have c1 := hM1.cell 1
  clear c0 hp0 hM0 hm0 hap hne
  go_wp2_with fail
  refine (penNumber_any _ m.cols v1 R base w1 ⟨q0, by omega⟩ hp1 (by rw [List.length_append]; omega) hs1).mono ?_
  rintro e w2 ⟨v2, rfl, hp2, hg2⟩
  have hM2 := hM1.pen hg2 hap1
  have hm2 := hm1.pen hg2 hne1
  have hne2 : 0 < n → Apart R v2 b := fun h0 => hg2.apart (hne1 h0) (hm1.lt h0)
  have hs2 : base ≤ w2.heap.size := Nat.le_trans hs1 hg2.far.size
  have hgo := (PenGo.pre hb0 hg1).trans hg2
  have c2 := hM2.cell 2
  have HP2 : Hid (PenAt w2 R base v2 (xs ++ ((matNums m).take (2 + 0)).flatMap seven)) := Lib.hid (by
    have : ((matNums m).take (2 + 0)).flatMap seven = seven m.rows.toNat ++ seven m.cols.toNat := by
      unfold matNums
      simp
    rw [this, ← List.append_assoc]
    exact hp2)
  clear c1 hp1 hM1 hm1 hap1 hne1 hg1 hg2 hp2 hs1 hs0
  go_wp2
  go_loopw [17] (fun i wr => ∃ (t : Nat) (u : Value), t ≤ n ∧ i = .int .i64 t ∧ PenAt wr R base u (xs ++ ((matNums m).take (2 + t)).flatMap seven) ∧ PenGo R w2 wr v2 u) (fun i _ => n - (intOf i).toNat)
  case atStart => exact ⟨0, v2, Nat.zero_le _, rfl, HP2.out, PenGo.refl _ _ _⟩
  case round =>
    clear hM2 c2
    obtain ⟨t, u, ht, rfl, hpr, hgr⟩ := hrel
    have hsr : base ≤ wr.heap.size := Nat.le_trans hs2 hgr.far.size
    by_cases hlt : t < n
    · have cx := (hm2.pen hgr hne2).cell t hlt
      have hz := HE.out (ix m.cells t) (by
        have : m.cells[t]? = some (ix m.cells t) := by unfold ix; rw [List.getElem?_eq_getElem (by rw [HL.out]; exact hlt)]; rfl
        exact List.mem_of_getElem? this)
      have hnx := sevens_take (l := matNums m) (t := 2 + t) (matNums_cell (by rw [HL.out]; exact hlt))
      obtain ⟨x, hx⟩ : ∃ x, ix m.cells t = x := ⟨_, rfl⟩
      rw [hx] at cx hz hnx
      have hzl := zig_lt hz
      obtain rfl := hm2.ptr (by omega)
      obtain ⟨z, hze⟩ : ∃ z, zigOf x = z := ⟨_, rfl⟩
      obtain ⟨z1, z2⟩ := hz
      have HV : Hid ((z : Int) = if 0 ≤ x then x * 2 else -1 - x * 2) := Lib.hid (by
        rw [← hze]
        unfold zigOf
        by_cases h : 0 ≤ x
        · rw [if_pos h, if_pos h]; omega
        · rw [if_neg h, if_neg h]; omega)
      rw [hze] at hnx hzl
      have HNX := Lib.hid hnx
      have HLN : Hid ((xs ++ ((matNums m).take (2 + t)).flatMap seven).length ≤ 1000000) := Lib.hid (by have := HTL.out (2 + t); rw [List.length_append]; omega)
      clear hnx hx hze
      have hcall := fun W => penNumber_any (xs ++ ((matNums m).take (2 + t)).flatMap seven) (z : Int) u R base W ⟨by omega, by omega⟩
      by_cases h : 0 ≤ x
      · have e1 := i64_xor_zero (x * 2) (by omega) (by omega)
        have e2 : x / 9223372036854775808 = 0 := by omega
        have e3 : x * 2 = (z : Int) := by rw [HV.out, if_pos h]
        rw [e3] at e1
        have HC := Lib.hid hcall
        clear hcall
        go_wp2_with fail
        refine (HC.out wr hpr HLN.out hsr).mono ?_
        rintro e w3 ⟨v', rfl, hp3, hg3⟩
        rw [Int.toNat_natCast, List.append_assoc, ← HNX.out] at hp3
        have hgn := hgr.trans hg3
        go_wp2
        go_roundw
        case rel => exact ⟨t + 1, v', by omega, by go_num, hp3, hgn⟩
        case measure => simp [intOf]; omega
      · have e1 := i64_not' (x * 2) (by omega) (by omega)
        have e2 : x / 9223372036854775808 = -1 := by omega
        have e3 : -1 - x * 2 = (z : Int) := by rw [HV.out, if_neg h]
        rw [e3] at e1
        have HC := Lib.hid hcall
        clear hcall
        go_wp2_with fail
        refine (HC.out wr hpr HLN.out hsr).mono ?_
        rintro e w3 ⟨v', rfl, hp3, hg3⟩
        rw [Int.toNat_natCast, List.append_assoc, ← HNX.out] at hp3
        have hgn := hgr.trans hg3
        go_wp2
        go_roundw
        case rel => exact ⟨t + 1, v', by omega, by go_num, hp3, hgn⟩
        case measure => simp [intOf]; omega
    · obtain rfl : n = t := by omega
      have hall : (matNums m).take (2 + n) = matNums m := List.take_of_length_le (by rw [matNums_len, HL.out]; exact Nat.le_refl _)
      rw [hall] at hpr
      have hfin := hgo.trans hgr
      go_wp2
      go_end0
      exact ⟨u, rfl, hpr, hfin⟩
end Go.Proofs.YtgknjikjjklaiaaDoor
