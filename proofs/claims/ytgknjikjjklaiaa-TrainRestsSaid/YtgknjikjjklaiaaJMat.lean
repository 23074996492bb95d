/- Some small texts, joined: Fix, Mat1, Mat2, Mat3, Mat4, Mat5, Same, Blank. -/
import Derived.Test.YtgknjikjjklaiaaProg
import Derived.Test.YtgknjikjjklaiaaBaseP
import Derived.Test.YtgknjikjjklaiaaSameI
import Derived.WalkKit
import Derived.WalkLawsBesides
import Derived.WalkSpells
import Derived.Test.YtgknjikjjklaiaaErrV
import Derived.Test.YtgknjikjjklaiaaBaseR
import Derived.Deep.RegionHeld3
import Derived.Deep.AppendLies
import Derived.Deep.DrawnRows
import Derived.Deep.DeepMust
import Derived.Deep.RegionLaw
import Derived.BigRegion
import Derived.BigQuiet
import Derived.IntWalk
import Derived.RegionTactic
section

set_option linter.unusedVariables false
set_option linter.unusedSimpArgs false
namespace Go.Proofs.Ytgknjikjjklaiaa
open Go.RowKit


theorem clamp_any (x : Int) (w : World) : Calls Try.prog 36 #[.int .i64 x] w fun e w' => e = .returned (.int .i64 (Gal.clamp x)) ∧ w = w' := by
  go_enter Try.func36, Try.ntmps36
  go_wp2
  all_goals (go_ret; exact ⟨ret_int (by unfold Gal.clamp; omega), rfl⟩)

theorem add_any (a b : Int) (w : World) : Calls Try.prog 30 #[.int .i64 a, .int .i64 b] w fun e w' => e = .returned (.int .i64 (Gal.add a b)) ∧ w = w' := by
  have h1 := Gal.clamp_lo a; have h2 := Gal.clamp_hi a; have h3 := Gal.clamp_lo b; have h4 := Gal.clamp_hi b
  go_enter Try.func30, Try.ntmps30
  go_wp2_with (go_at_call 36; refine (clamp_any _ _).mono ?_; rintro e w' ⟨rfl, rfl⟩)
  go_ret
  exact ⟨rfl, rfl⟩

theorem sub_any (a b : Int) (w : World) : Calls Try.prog 39 #[.int .i64 a, .int .i64 b] w fun e w' => e = .returned (.int .i64 (Gal.sub a b)) ∧ w = w' := by
  have h1 := Gal.clamp_lo a; have h2 := Gal.clamp_hi a; have h3 := Gal.clamp_lo b; have h4 := Gal.clamp_hi b
  go_enter Try.func39, Try.ntmps39
  go_wp2_with (go_at_call 36; refine (clamp_any _ _).mono ?_; rintro e w' ⟨rfl, rfl⟩)
  go_ret
  exact ⟨rfl, rfl⟩

theorem mul_any (a b : Int) (w : World) : Calls Try.prog 32 #[.int .i64 a, .int .i64 b] w fun e w' => e = .returned (.int .i64 (Gal.mul a b)) ∧ w = w' := by
  have h1 := Gal.clamp_lo a; have h2 := Gal.clamp_hi a; have h3 := Gal.clamp_lo b; have h4 := Gal.clamp_hi b
  obtain ⟨h5, h6⟩ := Gal.mul_bd a b
  go_enter Try.func32, Try.ntmps32
  go_wp2_with (go_at_call 36; refine (clamp_any _ _).mono ?_; rintro e w' ⟨rfl, rfl⟩)
  go_ret
  exact ⟨rfl, rfl⟩

end Go.Proofs.Ytgknjikjjklaiaa
end
section
set_option linter.unusedVariables false
set_option linter.unusedSimpArgs false
namespace Go.Proofs.Ytgknjikjjklaiaa
open Go.RowKit Gal

set_option maxHeartbeats 400000 in
theorem matCheck_any (r c : Int) (a : Option Addr) (n cap b off : Nat) (xs : List Int) (w : World) (hm : IntsAt w a n cap b off xs) :
    Calls Try.prog 22 #[.agg #[.int .i64 r, .int .i64 c, .slice a n cap]] w fun e w' => e = .returned (errV (matFault r c xs)) ∧ Below w.heap.size w w' := by
  by_cases h1 : r < 0 ∨ 24 < r ∨ c < 0 ∨ 12 < c
  · have hf : matFault r c xs = 1 := by unfold matFault; rw [if_pos h1]
    rw [hf, errV_err (by omega)]
    clear hf hm
    go_enter Try.func22, Try.ntmps22
    go_wp2
    all_goals (go_ret; exact ⟨rfl, (Below.refl _ _).alloc (Nat.le_refl _) _⟩)
  · have g1 : 0 ≤ r ∧ r ≤ 24 ∧ 0 ≤ c ∧ c ≤ 12 := by omega
    obtain ⟨r0, r1, c0, c1⟩ := g1
    obtain ⟨R, rfl⟩ := Int.eq_ofNat_of_zero_le r0
    obtain ⟨C, rfl⟩ := Int.eq_ofNat_of_zero_le c0
    have hrc : (R : Int) * C ≤ 288 := by
      have := Nat.mul_le_mul (show R ≤ 24 by omega) (show C ≤ 12 by omega)
      rw [← Int.natCast_mul]; omega
    have hrc0 : 0 ≤ (R : Int) * C := by rw [← Int.natCast_mul]; omega
    have hl := hm.len
    have hmx := hm.max
    unfold maxLen at hmx
    by_cases h2 : (n : Int) = R * C
    · have hne : ((n : Int) != R * C) = false := by simp [h2]
      have hn : n ≤ 288 := by omega
      have hf : matFault R C xs = if inEnds xs then 0 else 1 := by unfold matFault; rw [if_neg h1, if_neg (by rw [hl]; omega)]
      have HF := Lib.hid hf
      clear hf h2 h1
      go_enter Try.func22, Try.ntmps22
      go_wp2
      go_loop [37] (fun i => ∃ k : Nat, k ≤ n ∧ i = .int .i64 k ∧ ∀ j, j < k → clamp (ix xs j) = ix xs j) (fun i => n - (intOf i).toNat)
      case atStart => exact ⟨0, Nat.zero_le _, rfl, fun j hj => absurd hj (Nat.not_lt_zero _)⟩
      case round =>
        obtain ⟨k, hk, rfl, hpre⟩ := hrel
        have HP := Lib.hid hpre
        clear hpre
        by_cases hlt : k < n
        · have hn0 : 0 < n := by omega
          obtain rfl := hm.ptr hn0
          have hb0 := hm.lt hn0
          have hb := lt_add hb0
          have hc := hm.cell k hlt
          by_cases hx : clamp (ix xs k) = ix xs k
          · have hxx : (clamp (ix xs k) != ix xs k) = false := by simp [hx]
            have HX := Lib.hid hx
            clear hx
            go_wp2_with (go_at_call 36; refine (clamp_any _ _).mono ?_; rintro e w' ⟨rfl, rfl⟩)
            go_round
            case rel => exact ⟨k + 1, by omega, by go_num, fun j hj => by
              by_cases e : j = k
              · rw [e]; exact HX.out
              · exact HP.out j (by omega)⟩
            case measure => simp [intOf]; omega
          · have hxx : (clamp (ix xs k) != ix xs k) = true := by simp [hx]
            have HX := Lib.hid hx
            clear hx
            go_wp2_with (go_at_call 36; refine (clamp_any _ _).mono ?_; rintro e w' ⟨rfl, rfl⟩)
            go_ret
            refine ⟨ret_val ?_, (Below.refl _ _).alloc (Nat.le_refl _) _⟩
            show Value.iface _ _ = _
            rw [← errV_err (k := 1) (by omega)]
            rw [HF.out, if_neg (fun h => HX.out (h k (by rw [hl]; exact hlt)))]
        · go_wp2
          go_ret
          refine ⟨ret_val ?_, (Below.refl _ _).alloc (Nat.le_refl _) _⟩
          show Value.nilIface = _
          rw [HF.out, if_pos (show inEnds xs from fun j hj => HP.out j (by omega)), errV_nil rfl]
    · have hne : ((n : Int) != R * C) = true := by simp [h2]
      have hf : matFault R C xs = 2 := by unfold matFault; rw [if_neg h1, if_pos (by rw [hl]; exact h2)]
      rw [hf, errV_err (by omega)]
      clear hf h1 h2
      go_enter Try.func22, Try.ntmps22
      go_wp2
      go_ret
      exact ⟨rfl, (Below.refl _ _).alloc (Nat.le_refl _) _⟩
end Go.Proofs.Ytgknjikjjklaiaa
end
section
set_option linter.unusedVariables false
set_option linter.unusedSimpArgs false
namespace Go.Proofs.Ytgknjikjjklaiaa
open Go.RowKit Gal
attribute [local go_sem ↓] Go.wp_at_zero Go.wp_at_succ

theorem info_int : (Try.prog.info? 3).map (fun i => (i.zero, i.size, i.bytes)) = some (some (.int .i64 0), 1, 8) := by kernel_rfl

set_option maxRecDepth 100000 in
set_option maxHeartbeats 1000000 in
theorem filled_any (R C : Nat) (hR : R ≤ 24) (hC : C ≤ 24) (fid : FuncId) (cs : Array Value) (g : Nat → Nat → Int) (w : World)
    (hcf : ∀ (vs : Array Value) (W : World), (callFunc fid vs).run Try.prog W = .ok (.enter fid vs) W)
    (hg : ∀ (i j : Nat), i < R → j < C → ∀ W, Below w.heap.size w W → Calls Try.prog fid (#[.int .i64 i, .int .i64 j] ++ cs) W fun e W' => e = .returned (.int .i64 (g i j)) ∧ ∃ n, W' = W.drewN n) :
    Calls Try.prog 53 #[.int .i64 R, .int .i64 C, .func (.func fid) #[] cs] w fun e w' =>
      ∃ a cap b, e = .returned (.agg #[.int .i64 R, .int .i64 C, .slice a (R * C : Nat) cap]) ∧ (0 < R * C → w.heap.size ≤ b) ∧ IntsAt w' a (R * C) cap b 0 (grid g C R) ∧ Below w.heap.size w w' := by
  have HG := Lib.hid hg
  clear hg
  have hrc : R * C ≤ 576 := Nat.mul_le_mul hR hC
  have hrc' : (R : Int) * C ≤ 576 := by rw [← Int.natCast_mul]; omega
  have hrc0 : 0 ≤ (R : Int) * C := by rw [← Int.natCast_mul]; omega
  obtain ⟨i0, hi, hz0, hz1, hz2⟩ := info_parts info_int
  have hmk := fun W => run_make_rowN (P := Try.prog) 23 3 i0 _ Try.underlying23 hi hz0 .i64 .i64 0 (R * C) 0 (R * C) rfl (by rw [Int.natCast_mul]) (Nat.zero_le _) (by rw [hz2]; omega) (by omega) W
  rw [hz1, Nat.mul_one] at hmk
  go_enter Try.func53, Try.ntmps53
  go_wp2
  go_loopw [18] (fun i wr => ∃ (k : Nat) (v : Value), k ≤ R ∧ i = .int .i64 k ∧ Below w.heap.size w wr ∧ Box wr w.heap.size [.int .i64 0, .int .i64 0, .slice none 0 0] 25 ∧
      Box wr (w.heap.size + 1 + 1) [.int .i64 R, .int .i64 C, v] 25 ∧ wr.ownsRow (w.heap.size + 1) 3 1 v (k * C) ((grid g C k).map (Value.int .i64))) (fun i _ => R - (intOf i).toNat)
  case atStart =>
    refine ⟨0, .slice (some ⟨w.heap.size + 1, 0, none⟩) 0 (R * C), Nat.zero_le _, rfl, (((Below.refl _ _).alloc (Nat.le_refl _) _).alloc (by simp) _).alloc (by simp; omega) _, ((Box.new _ _ _).alloc _).alloc _, ?_, ?_⟩
    · exact Box.new' _ _ _ _ (by simp)
    · rw [Nat.zero_mul]
      exact (own_made (w.alloc _) _ _ _ _ _ _ (by simp) (by simp) (by unfold maxLen; omega) (by rw [size_madeCells]; omega)).alloc _
  case round =>
    obtain ⟨k, v, hk, rfl, hb, hB0, hBM, hown⟩ := hrel
    by_cases hlt : k < R
    · go_wp2
      obtain ⟨wo, hwo⟩ : ∃ wo : World, wo = wr := ⟨_, rfl⟩
      go_loopw [22] (fun j wi => ∃ (l : Nat) (v : Value), l ≤ C ∧ j = .int .i64 l ∧ Below w.heap.size w wi ∧ Box wi w.heap.size [.int .i64 0, .int .i64 0, .slice none 0 0] 25 ∧
          Box wi (w.heap.size + 1 + 1) [.int .i64 R, .int .i64 C, v] 25 ∧ wi.ownsRow (w.heap.size + 1) 3 1 v (k * C + l) ((gridTo g C k l).map (Value.int .i64))) (fun j _ => C - (intOf j).toNat)
      case atStart => exact ⟨0, v, Nat.zero_le _, rfl, hb, hB0, hBM, by rw [gridTo_zero]; exact hown⟩
      case round =>
        obtain ⟨l, v, hl, rfl, hb, hB0, hBM, hown⟩ := hrel
        by_cases hlt2 : l < C
        · have c2 := hBM.cell 2
          have f2 := hBM.thawed 2
          go_wp2
          have hvM : some (w.heap.size + 1 + 1) ≠ v.ownBlock := Ne.symm (own_ne hown hBM (by decide))
          have hv0 : some w.heap.size ≠ v.ownBlock := Ne.symm (own_ne hown hB0 (by decide))
          have hM := hBM.lt
          have cA := fun n o => ((hBM.drewN n).alloc o).cell 2
          have hkl : k * C + l < R * C := by
            have := Nat.mul_le_mul_right C (show k + 1 ≤ R by omega)
            rw [Nat.succ_mul] at this
            omega
          go_region_law (first | ((refine at_oper ⟨some 32, _, _, _, _, _⟩ ?_; go_must (refine step_append_lies _ rfl (.tmp 26) (.tmp 31) 23 rfl (w.heap.size + 1) 3 i0 (.int .i64 0) 1 8 Try.underlying23 hi hz0 hz1 hz2 (by rfl) (by decide) v (k * C + l) ((gridTo g C k l).map (Value.int .i64)) (by rfl) (by exact hown.alloc _) ⟨wr.heap.size, 0, none⟩ 1 1 [.int .i64 (g k l)] (by rfl) (by rfl) (World.news_of_block (cs := #[.int .i64 (g k l)]) (by exact heap_alloc_new wr _)) (by simp [Value.oneCell']) (by decide) (by unfold maxLen; omega) (by omega) (by simp; omega) (wr.heap.size + 1) (by simp) ?_); intro g1 cap1 w1 hown1 hgrow hat hlt1; have hB1 := (((hBM.drewN _).alloc _).grown hgrow hvM); have c21 := hB1.cell 2; have f21 := hB1.thawed 2)) | (go_simp; refine (HG.out k l hlt hlt2 _ ?_).mono ?_; (exact hb.drew); rintro e W' ⟨rfl, nd, rfl⟩))
          all_goals (
            go_wp2
            go_roundw
            case rel => exact ⟨l + 1, .slice (some ⟨g1, 0, none⟩) (k * C + l + 1) cap1, by omega, by go_num, (below_append hb (by omega) hown (Nat.le_succ _) hgrow).setCell (by simp; omega) _,
              (((hB0.drewN _).alloc _).grown hgrow hv0).far (by simp; omega) _, hB1.set 2 _, by
                rw [← gridTo_cell, List.map_append]; exact own_set hown1 (own_ne hown1 hB1 (by decide)) _⟩
            case measure => simp [intOf]; omega)
        · go_wp2
          go_roundw
          case rel =>
            obtain rfl : l = C := by omega
            exact ⟨k + 1, v, by omega, by go_num, hb, hB0, hBM, by rw [Nat.succ_mul, ← gridTo_row]; exact hown⟩
          case measure => simp [intOf]; omega
    · obtain rfl : k = R := by omega
      obtain ⟨av, cv, rfl⟩ := own_slice hown
      have c0 := hBM.cell 0
      have c1 := hBM.cell 1
      have c2 := hBM.cell 2
      have d0 := hB0.cell 0
      have d1 := hB0.cell 1
      have d2 := hB0.cell 2
      have e0 := hB0.thawed
      have HO := Lib.hid hown
      clear hown
      go_wp2
      obtain ⟨a', c', b', he, hbb, hin⟩ := IntsAt.of_own HO.out
      cases he
      have hd : some w.heap.size ≠ (Value.slice av (k * C) cv).ownBlock := Ne.symm (own_ne HO.out hB0 (by decide))
      refine bodyPost_ret (v := .agg #[.int .i64 k, .int .i64 C, .slice av (k * C) cv]) (by simp [results, Try.results53, go_sem, d0, d1, d2]) rfl ⟨av, cv, b', rfl, ?_, ?_, ?_⟩
      · intro h0; have := hbb h0; omega
      · exact ((hin.set (fun h0 => by have := hbb h0; simp; omega) _).set (fun h0 => by have := hbb h0; simp; omega) _).set (fun h0 => by have := hbb h0; simp; omega) _
      · exact ((hb.setCell (by simp) _).setCell (by simp) _).setCell (by simp) _
end Go.Proofs.Ytgknjikjjklaiaa
end
section
set_option linter.unusedVariables false
set_option linter.unusedSimpArgs false
namespace Go.Proofs.Ytgknjikjjklaiaa
open Go.RowKit Gal

set_option maxRecDepth 100000 in
set_option maxHeartbeats 1000000 in
theorem mulCell_any (p q : Nat) (ar ac bc : Nat) (aa ba : Option Addr) (acap bcap ab ao bb bo : Nat) (xs ys : List Int) (har : ar ≤ 24) (hac : ac ≤ 12) (hbc : bc ≤ 12) (w : World)
    (hp : Box w p [.int .i64 ar, .int .i64 ac, .slice aa (ar * ac) acap] 25) (hq : Box w q [.int .i64 ac, .int .i64 bc, .slice ba (ac * bc) bcap] 25)
    (hx : IntsAt w aa (ar * ac) acap ab ao xs) (hy : IntsAt w ba (ac * bc) bcap bb bo ys) (i j : Nat) (hi : i < ar) (hj : j < bc) :
    Calls Try.prog 82 #[.int .i64 i, .int .i64 j, .pointer (some ⟨p, 0, none⟩), .pointer (some ⟨q, 0, none⟩)] w fun e w' => e = .returned (.int .i64 (mulCell xs ys ac bc i j)) ∧ ∃ n, w' = w.drewN n := by
  have p1 := hp.cell 1
  have p2 := hp.cell 2
  have q1 := hq.cell 1
  have q2 := hq.cell 2
  go_enter Try.func82, Try.ntmps82
  go_wp2
  go_loopw [7, 11] (fun s c wr => ∃ k n : Nat, k ≤ ac ∧ c = .int .i64 k ∧ s = .int .i64 (sumTo (fun k => mul (ix xs (i * ac + k)) (ix ys (k * bc + j))) k) ∧ wr = w.drewN n) (fun _ c _ => ac - (intOf c).toNat)
  case atStart => exact ⟨0, 0, Nat.zero_le _, rfl, rfl, rfl⟩
  case round =>
    obtain ⟨k, n, hk, rfl, rfl, rfl⟩ := hrel
    by_cases hlt : k < ac
    · have hia := cell_lt hi hlt
      have hkb := cell_lt hlt hj
      obtain rfl := hx.ptr (by omega)
      obtain rfl := hy.ptr (by omega)
      have ca := hx.cell _ hia
      have cb := hy.cell _ hkb
      have e1 : (i : Int) * ac ≤ 288 := by have := Nat.mul_le_mul (show i ≤ 24 by omega) hac; rw [← Int.natCast_mul]; omega
      have e2 : (k : Int) * bc ≤ 288 := by have := Nat.mul_le_mul (show k ≤ 24 by omega) hbc; rw [← Int.natCast_mul]; omega
      have e3 : (0 : Int) ≤ (i : Int) * ac := by rw [← Int.natCast_mul]; omega
      have e4 : (0 : Int) ≤ (k : Int) * bc := by rw [← Int.natCast_mul]; omega
      have w1 : IntKind.i64.wrap ((i : Int) * ac) = (i : Int) * ac := IntWalk.i64_in _ (by omega)
      have w2 : IntKind.i64.wrap ((k : Int) * bc) = (k : Int) * bc := IntWalk.i64_in _ (by omega)
      have w3 : IntKind.i64.wrap ((i : Int) * ac + k) = (i : Int) * ac + k := IntWalk.i64_in _ (by omega)
      have w4 : IntKind.i64.wrap ((k : Int) * bc + j) = (k : Int) * bc + j := IntWalk.i64_in _ (by omega)
      have x1 : (i : Int) * ac + k < (ar : Int) * ac := by rw [← Int.natCast_mul, ← Int.natCast_mul]; omega
      have x2 : (k : Int) * bc + j < (ac : Int) * bc := by rw [← Int.natCast_mul, ← Int.natCast_mul]; omega
      have x3 : 0 ≤ (i : Int) * ac + k := by omega
      have x4 : 0 ≤ (k : Int) * bc + j := by omega
      have x5 : ((i : Int) * ac + k).toNat = i * ac + k := by rw [← Int.natCast_mul]; omega
      have x6 : ((k : Int) * bc + j).toNat = k * bc + j := by rw [← Int.natCast_mul]; omega
      go_wp2
      go_quiet ((first | (go_at_call 32; first | exact quiet0 (mul_any _ _) | exact quiet1 (mul_any _ _)) | (go_at_call 30; first | exact quiet0 (add_any _ _) | exact quiet1 (add_any _ _))))
      go_wp2
      go_roundw
      case rel => exact ⟨k + 1, _, by omega, by go_num, rfl, rfl⟩
      case measure => simp [intOf]; omega
    · obtain rfl : k = ac := by omega
      go_wp2
      go_ret
      exact ⟨rfl, _, rfl⟩

/-- a cell of a matrix, turned -/
theorem turnCell_any (p : Nat) (ar ac : Nat) (aa : Option Addr) (acap ab ao : Nat) (xs : List Int) (har : ar ≤ 24) (hac : ac ≤ 12) (w : World)
    (hp : Box w p [.int .i64 ar, .int .i64 ac, .slice aa (ar * ac : Nat) acap] 25) (hx : IntsAt w aa (ar * ac) acap ab ao xs) (i j : Nat) (hi : i < ac) (hj : j < ar) :
    Calls Try.prog 81 #[.int .i64 i, .int .i64 j, .pointer (some ⟨p, 0, none⟩)] w fun e w' => e = .returned (.int .i64 (ix xs (j * ac + i))) ∧ ∃ n, w' = w.drewN n := by
  have p1 := hp.cell 1
  have p2 := hp.cell 2
  have hji := cell_lt hj hi
  obtain rfl := hx.ptr (by omega)
  have ca := hx.cell _ hji
  have e1 : (j : Int) * ac ≤ 288 := by have := Nat.mul_le_mul (show j ≤ 24 by omega) hac; rw [← Int.natCast_mul]; omega
  have e3 : (0 : Int) ≤ (j : Int) * ac := by rw [← Int.natCast_mul]; omega
  have w1 : IntKind.i64.wrap ((j : Int) * ac) = (j : Int) * ac := IntWalk.i64_in _ (by omega)
  have w3 : IntKind.i64.wrap ((j : Int) * ac + i) = (j : Int) * ac + i := IntWalk.i64_in _ (by omega)
  have x1 : (j : Int) * ac + i < (ar : Int) * ac := by rw [← Int.natCast_mul, ← Int.natCast_mul]; omega
  have x3 : 0 ≤ (j : Int) * ac + i := by omega
  have x5 : ((j : Int) * ac + i).toNat = j * ac + i := by rw [← Int.natCast_mul]; omega
  go_enter Try.func81, Try.ntmps81
  go_wp2
  go_ret
  exact ⟨rfl, 0, rfl⟩
end Go.Proofs.Ytgknjikjjklaiaa
end
section
set_option linter.unusedVariables false
set_option linter.unusedSimpArgs false
namespace Go.Proofs.Ytgknjikjjklaiaa
open Go.RowKit Gal

set_option maxRecDepth 100000 in
set_option maxHeartbeats 1000000 in
theorem check_any (a : Option Addr) (n cap b off : Nat) (ms : List Mat) (w : World) (hm : MatsAt w a n cap b off ms) :
    Calls Try.prog 52 #[.slice a n cap] w fun e w' => e = .returned (errV (firstFault ms)) ∧ Below w.heap.size w w' := by
  have hl := hm.len
  have hmx := hm.max
  unfold maxLen at hmx
  go_enter Try.func52, Try.ntmps52
  go_wp2
  go_loopw [8] (fun i wr => ∃ k : Nat, k ≤ n ∧ i = .int .i64 k ∧ Below w.heap.size w wr ∧ ∀ j, j < k → (mx ms j).fault = 0) (fun i _ => n - (intOf i).toNat)
  case atStart => exact ⟨0, Nat.zero_le _, rfl, Below.refl _ _, fun j hj => absurd hj (Nat.not_lt_zero _)⟩
  case round =>
    obtain ⟨k, hk, rfl, hb, hpre⟩ := hrel
    have HP := Lib.hid hpre
    clear hpre
    by_cases hlt : k < n
    · obtain rfl := hm.ptr (by omega)
      have hbs := hm.lt (by omega)
      obtain ⟨a', n', cap', b', off', m0, m1, m2, hb', hi⟩ := hm.cell k hlt
      have c0 := (hb.cell (p := ⟨b, off + k * 3, none⟩) hbs).trans m0
      have c1 := (hb.cell (p := ⟨b, off + k * 3 + 1, none⟩) hbs).trans m1
      have c2 := (hb.cell (p := ⟨b, off + k * 3 + 2, none⟩) hbs).trans m2
      clear m0 m1 m2
      by_cases hf : (mx ms k).fault = 0
      · have hE : errV (matFault (mx ms k).rows (mx ms k).cols (mx ms k).cells) = .nilIface := errV_nil hf
        have HF := Lib.hid hf
        clear hf
        go_wp2_with fail
        refine (matCheck_any (mx ms k).rows (mx ms k).cols a' n' cap' b' off' (mx ms k).cells _ ((hi.below hb hb').alloc _)).mono ?_
        rintro e w1 ⟨rfl, hb1⟩
        go_wp2
        go_roundw
        case rel => exact ⟨k + 1, by omega, by go_num, (hb.alloc hb.size _).trans (hb1.mono (by simp; have := hb.size; omega)), fun j hj => by
          by_cases e : j = k
          · rw [e]; exact HF.out
          · exact HP.out j (by omega)⟩
        case measure => simp [intOf]; omega
      · have hE : errV (matFault (mx ms k).rows (mx ms k).cols (mx ms k).cells) = .iface 56 (.int .i64 (matFault (mx ms k).rows (mx ms k).cols (mx ms k).cells)) := errV_err hf
        have HF := Lib.hid hf
        clear hf
        go_wp2_with fail
        refine (matCheck_any (mx ms k).rows (mx ms k).cols a' n' cap' b' off' (mx ms k).cells _ ((hi.below hb hb').alloc _)).mono ?_
        rintro e w1 ⟨rfl, hb1⟩
        go_wp2
        go_ret
        refine ⟨ret_val ?_, (hb.alloc hb.size _).trans (hb1.mono (by simp; have := hb.size; omega))⟩
        rw [firstFault_at (by rw [hl]; exact hlt) (fun j hj => HP.out j hj) HF.out, errV_err HF.out]
        rfl
    · go_wp2
      go_ret
      refine ⟨ret_val ?_, hb⟩
      rw [firstFault_none (fun j hj => HP.out j (by omega)), errV_nil rfl]
      rfl
end Go.Proofs.Ytgknjikjjklaiaa
end
section
set_option linter.unusedVariables false
set_option linter.unusedSimpArgs false
namespace Go.Proofs.Ytgknjikjjklaiaa
open Go.RowKit Gal

theorem cf_mul (vs : Array Value) (W : World) : (callFunc 82 vs).run Try.prog W = .ok (.enter 82 vs) W := by kernel_rfl

set_option maxRecDepth 100000 in
set_option maxHeartbeats 1000000 in
theorem matMul_bad (ma mb : Mat) (va vb : Value) (w : World) (ha : MatAt w va ma) (hb : MatAt w vb mb) (hf : mulFault ma mb ≠ 0) :
    Calls Try.prog 78 #[va, vb] w fun e w' => e = .returned (.tuple #[.agg #[.int .i64 0, .int .i64 0, .slice none 0 0], errV (mulFault ma mb)]) ∧ Below w.heap.size w w' := by
  obtain ⟨a0, n0, k0, b0, o0, rfl, h0⟩ := ha
  obtain ⟨a1, n1, k1, b1, o1, rfl, h1⟩ := hb
  by_cases hc : firstFault [ma, mb] = 0
  · have hE : errV (firstFault [ma, mb]) = .nilIface := errV_nil hc
    have hcr : (ma.cols != mb.rows) = true := by
      unfold mulFault at hf
      rw [if_pos hc] at hf
      by_cases h : ma.cols = mb.rows
      · rw [if_pos h] at hf; omega
      · simp [h]
    have hm : mulFault ma mb = 2 := by
      unfold mulFault at *
      rw [if_pos hc] at *
      by_cases h : ma.cols = mb.rows
      · rw [if_pos h] at hf; omega
      · rw [if_neg h]
    rw [hm, errV_err (by omega)]
    clear hm hc hf
    go_enter Try.func78, Try.ntmps78
    go_wp2_with fail
    refine (check_any _ _ _ _ _ [ma, mb] _ (mats2 (Box.new' _ _ _ _ (by simp)) (h0.alloc _ |>.alloc _ |>.alloc _ |>.alloc _) (h1.alloc _ |>.alloc _ |>.alloc _ |>.alloc _))).mono ?_
    rintro e w1 ⟨rfl, hb1⟩
    have B2 := (((Box.new' _ w.heap.size _ _ (by simp)).alloc _).alloc _ |>.alloc _).keep hb1
    have B2c := B2.cell
    have B2f := B2.thawed
    have B2z := B2.lt
    have B2k := lt_add B2z
    have B3 := ((Box.new' _ (w.heap.size + 1) _ _ (by simp)).alloc _ |>.alloc _).keep hb1
    have B3c := B3.cell
    have B3f := B3.thawed
    have B3z := B3.lt
    have B3k := lt_add B3z
    have B4 := ((Box.new' _ (w.heap.size + 1 + 1) _ _ (by simp)).alloc _).keep hb1
    have B4c := B4.cell
    have B4f := B4.thawed
    have B4z := B4.lt
    have B4k := lt_add B4z
    go_wp2
    exact bodyPost_ret (v := .tuple #[.agg #[.int .i64 0, .int .i64 0, .slice none 0 0], .iface 56 (.int .i64 2)]) (by simp [results, Try.results78, go_sem, B4c]) rfl ⟨rfl, (by repeat (first | fail | (with_reducible exact Below.refl _ _) | (with_reducible refine Below.al ?_ _) | (with_reducible refine Below.drN ?_ _) | (with_reducible refine Below.drew ?_) | (with_reducible refine Below.st ?_ ?_ _; rotate_left 1; (first | (dsimp only; omega) | omega | (simp; omega) | simp)) | (with_reducible refine Below.go ?_ hb1) | exact Below.refl _ _))⟩
  · have hE : errV (firstFault [ma, mb]) = .iface 56 (.int .i64 (firstFault [ma, mb])) := errV_err hc
    have hm : mulFault ma mb = firstFault [ma, mb] := by unfold mulFault; rw [if_neg hc]
    rw [hm, hE]
    clear hm hc hf
    go_enter Try.func78, Try.ntmps78
    go_wp2_with fail
    refine (check_any _ _ _ _ _ [ma, mb] _ (mats2 (Box.new' _ _ _ _ (by simp)) (h0.alloc _ |>.alloc _ |>.alloc _ |>.alloc _) (h1.alloc _ |>.alloc _ |>.alloc _ |>.alloc _))).mono ?_
    rintro e w1 ⟨rfl, hb1⟩
    have B4 := ((Box.new' _ (w.heap.size + 1 + 1) _ _ (by simp)).alloc _).keep hb1
    have B4c := B4.cell
    have B4f := B4.thawed
    have B4z := B4.lt
    have B4k := lt_add B4z
    go_wp2
    exact bodyPost_ret (v := .tuple #[.agg #[.int .i64 0, .int .i64 0, .slice none 0 0], .iface 56 (.int .i64 (firstFault [ma, mb]))]) (by simp [results, Try.results78, go_sem, B4c]) rfl ⟨rfl, (by repeat (first | fail | (with_reducible exact Below.refl _ _) | (with_reducible refine Below.al ?_ _) | (with_reducible refine Below.drN ?_ _) | (with_reducible refine Below.drew ?_) | (with_reducible refine Below.st ?_ ?_ _; rotate_left 1; (first | (dsimp only; omega) | omega | (simp; omega) | simp)) | (with_reducible refine Below.go ?_ hb1) | exact Below.refl _ _))⟩

set_option maxRecDepth 100000 in
set_option maxHeartbeats 1000000 in
theorem matMul_new (ma mb : Mat) (va vb : Value) (w : World) (ha : MatAt w va ma) (hb : MatAt w vb mb) (hf : mulFault ma mb = 0) :
    Calls Try.prog 78 #[va, vb] w fun e w' => ∃ v, e = .returned (.tuple #[v, .nilIface]) ∧ MatNew w.heap.size w' v (matMul ma mb) ∧ Below w.heap.size w w' := by
  obtain ⟨hc, hcr⟩ := mulFault_ok hf
  obtain ⟨fa, fb⟩ := firstFault_two.1 hc
  obtain ⟨R, K, eR, eK, hR, hK, hla, hea⟩ := matFault_ok fa
  obtain ⟨K', C, eK', eC, hK', hC, hlb, heb⟩ := matFault_ok fb
  obtain ⟨mar, mac, xs⟩ := ma
  obtain ⟨mbr, mbc, ys⟩ := mb
  dsimp only at eR eK eK' eC hcr hla hlb
  subst eR eK eK' eC
  obtain rfl : K = K' := by omega
  clear hcr hea heb
  obtain ⟨a0, n0, k0, b0, o0, rfl, h0⟩ := ha
  obtain ⟨a1, n1, k1, b1, o1, rfl, h1⟩ := hb
  obtain rfl : R * K = n0 := by rw [← hla]; exact h0.len
  obtain rfl : K * C = n1 := by rw [← hlb]; exact h1.len
  dsimp only at h0 h1
  have hE : errV (firstFault [⟨R, K, xs⟩, ⟨K, C, ys⟩]) = .nilIface := errV_nil hc
  clear hf hc fa fb hla hlb
  go_enter Try.func78, Try.ntmps78
  go_wp2_with fail
  refine (check_any _ _ _ _ _ [⟨R, K, xs⟩, ⟨K, C, ys⟩] _ (mats2 (Box.new' _ _ _ _ (by simp)) (h0.alloc _ |>.alloc _ |>.alloc _ |>.alloc _) (h1.alloc _ |>.alloc _ |>.alloc _ |>.alloc _))).mono ?_
  rintro e w1 ⟨rfl, hb1⟩
  have B2 := (((Box.new' _ w.heap.size _ _ (by simp)).alloc _).alloc _ |>.alloc _).keep hb1
  have B2c := B2.cell
  have B2f := B2.thawed
  have B2z := B2.lt
  have B2k := lt_add B2z
  have B3 := ((Box.new' _ (w.heap.size + 1) _ _ (by simp)).alloc _ |>.alloc _).keep hb1
  have B3c := B3.cell
  have B3f := B3.thawed
  have B3z := B3.lt
  have B3k := lt_add B3z
  have B4 := ((Box.new' _ (w.heap.size + 1 + 1) _ _ (by simp)).alloc _).keep hb1
  have B4c := B4.cell
  have B4f := B4.thawed
  have B4z := B4.lt
  have B4k := lt_add B4z
  have z1 := hb1.size
  simp at z1
  go_wp2_with fail
  have x0 := (h0.alloc _ |>.alloc _ |>.alloc _ |>.alloc _).keep hb1
  have x1 := (h1.alloc _ |>.alloc _ |>.alloc _ |>.alloc _).keep hb1
  refine (filled_any R C hR (by omega) 82 #[.pointer (some ⟨w.heap.size, 0, none⟩), .pointer (some ⟨w.heap.size + 1, 0, none⟩)] (mulCell xs ys K C) _ cf_mul ?_).mono ?_
  · intro i j hi hj W hW
    exact mulCell_any _ _ R K C _ _ _ _ _ _ _ _ xs ys hR hK hC W (B2.keep hW) (B3.keep hW) (x0.keep hW) (x1.keep hW) i j hi hj
  · rintro e w2 ⟨a2, k2, b2, rfl, hn2, hi2, hb2⟩
    have C4 := B4.keep hb2
    have C4c := C4.cell
    have C4f := C4.thawed
    have C4z := C4.lt
    have C4k := lt_add C4z
    go_wp2
    refine bodyPost_ret (v := .tuple #[.agg #[.int .i64 R, .int .i64 C, .slice a2 (R * C) k2], .nilIface]) (by simp [results, Try.results78, go_sem, C4c]) rfl ⟨_, rfl, MatNew.mk (fun h => by have := hn2 h; omega) (hi2.set3 (fun h => by have := hn2 h; omega) _ _ _), (by repeat (first | fail | (with_reducible exact Below.refl _ _) | (with_reducible refine Below.al ?_ _) | (with_reducible refine Below.drN ?_ _) | (with_reducible refine Below.drew ?_) | (with_reducible refine Below.st ?_ ?_ _; rotate_left 1; (first | (dsimp only; omega) | omega | (simp; omega) | simp)) | (with_reducible refine Below.go ?_ hb2) | (with_reducible refine Below.go ?_ hb1) | exact Below.refl _ _))⟩
theorem matMul_ok (ma mb : Mat) (va vb : Value) (w : World) (ha : MatAt w va ma) (hb : MatAt w vb mb) (hf : mulFault ma mb = 0) :
    Calls Try.prog 78 #[va, vb] w fun e w' => ∃ v, e = .returned (.tuple #[v, .nilIface]) ∧ MatAt w' v (matMul ma mb) ∧ Below w.heap.size w w' :=
  (matMul_new ma mb va vb w ha hb hf).mono fun _ _ ⟨v, h1, h2, h3⟩ => ⟨v, h1, h2.at, h3⟩
end Go.Proofs.Ytgknjikjjklaiaa
end
section
set_option linter.unusedVariables false
set_option linter.unusedSimpArgs false
namespace Go.Proofs.Ytgknjikjjklaiaa
open Go.RowKit Gal

set_option maxRecDepth 100000 in
set_option maxHeartbeats 1000000 in
theorem matrices_any (ma mb : Mat) (va vb : Value) (w : World) (ha : MatAt w va ma) (hb : MatAt w vb mb) :
    Calls Try.prog 21 #[va, vb] w fun e w' => e = .returned (.bool (decide (ma = mb))) ∧ Below w.heap.size w w' := by
  obtain ⟨r0, c0, xs⟩ := ma
  obtain ⟨r1, c1, ys⟩ := mb
  obtain ⟨a0, n0, k0, b0, o0, rfl, h0⟩ := ha
  obtain ⟨a1, n1, k1, b1, o1, rfl, h1⟩ := hb
  dsimp only at h0 h1
  by_cases h : r0 = r1 ∧ c0 = c1
  · obtain ⟨rfl, rfl⟩ := h
    have e1 : (r0 != r0) = false := by simp
    have e2 : (c0 != c0) = false := by simp
    go_enter Try.func21, Try.ntmps21
    go_wp2_with fail
    refine (ints_any _ _ _ _ _ _ _ _ _ _ xs ys _ (h0.alloc _ |>.alloc _) (h1.alloc _ |>.alloc _)).mono ?_
    rintro e w1 ⟨rfl, m, rfl⟩
    go_wp2
    go_ret
    refine ⟨ret_val ?_, (by repeat (first | fail | (with_reducible exact Below.refl _ _) | (with_reducible refine Below.al ?_ _) | (with_reducible refine Below.drN ?_ _) | (with_reducible refine Below.drew ?_) | (with_reducible refine Below.st ?_ ?_ _; rotate_left 1; (first | (dsimp only; omega) | omega | (simp; omega) | simp)) | exact Below.refl _ _))⟩
    simp [go_sem]
  · have hd : decide ((⟨r0, c0, xs⟩ : Mat) = ⟨r1, c1, ys⟩) = false := decide_eq_false (fun e => h (by simp only [Mat.mk.injEq] at e; exact ⟨e.1, e.2.1⟩))
    rw [hd]
    clear hd
    by_cases hr : r0 = r1
    · subst hr
      have e1 : (r0 != r0) = false := by simp
      have e2 : (c0 != c1) = true := by simp; intro e; exact h ⟨rfl, e⟩
      clear h
      go_enter Try.func21, Try.ntmps21
      go_wp2
      go_ret
      exact ⟨rfl, (by repeat (first | fail | (with_reducible exact Below.refl _ _) | (with_reducible refine Below.al ?_ _) | (with_reducible refine Below.drN ?_ _) | (with_reducible refine Below.drew ?_) | (with_reducible refine Below.st ?_ ?_ _; rotate_left 1; (first | (dsimp only; omega) | omega | (simp; omega) | simp)) | exact Below.refl _ _))⟩
    · have e1 : (r0 != r1) = true := by simp [hr]
      clear h hr
      go_enter Try.func21, Try.ntmps21
      go_wp2
      go_ret
      exact ⟨rfl, (by repeat (first | fail | (with_reducible exact Below.refl _ _) | (with_reducible refine Below.al ?_ _) | (with_reducible refine Below.drN ?_ _) | (with_reducible refine Below.drew ?_) | (with_reducible refine Below.st ?_ ?_ _; rotate_left 1; (first | (dsimp only; omega) | omega | (simp; omega) | simp)) | exact Below.refl _ _))⟩
end Go.Proofs.Ytgknjikjjklaiaa
end
section
set_option linter.unusedVariables false
set_option linter.unusedSimpArgs false
namespace Go.Proofs.Ytgknjikjjklaiaa
open Go.RowKit Gal

theorem ints_box {w : World} {b : Nat} {xs : List Int} {t : TypeId} (h : Box w b (xs.map (Value.int .i64)) t) (hl : xs.length ≤ maxLen) : IntsAt w (some ⟨b, 0, none⟩) xs.length xs.length b 0 xs := by
  refine ⟨rfl, Nat.le_refl _, hl, fun _ => rfl, fun _ => h.lt, fun i hi => ?_⟩
  rw [Nat.zero_add, h.cell]
  unfold ix
  rw [List.getElem?_map, List.getElem?_eq_getElem hi]
  rfl

end Go.Proofs.Ytgknjikjjklaiaa
end
