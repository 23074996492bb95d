/- Contracts of package mat: Stack. -/
import Derived.Test.YtikcdjibflleeaaJMat
import Derived.Test.YtikcdjibflleeaaBaseR
import Derived.Test.YtikcdjibflleeaaBaseP
set_option linter.unusedVariables false
set_option linter.unusedSimpArgs false
namespace Go.Proofs.Ytikcdjibflleeaa
open Go.RowKit Gal

set_option maxRecDepth 100000 in
set_option maxHeartbeats 1000000 in
theorem matStack_any (a : Option Addr) (n cap b off : Nat) (ms : List Mat) (w : World) (hm : MatsAt w a n cap b off ms) (hn : n ≤ 1048576) (hff : firstFault ms = 0) (hn0 : 0 < n) :
    Calls Try.prog 24 #[.slice a n cap] w fun e w' =>
      (stackFault ms = 0 → ∃ v, e = .returned (.tuple #[v, .nilIface]) ∧ MatNew w.heap.size w' v (matStack ms)) ∧
      (stackFault ms ≠ 0 → e = .returned (.tuple #[.agg #[.int .i64 0, .int .i64 0, .slice none 0 0], .iface 62 (.int .i64 (stackFault ms))])) ∧ Below w.heap.size w w' := by
  obtain ⟨i0, hi, hz0, hz1, hz2⟩ := info_parts info_int
  have hl := hm.len
  have hmx := hm.max
  unfold maxLen at hmx
  have HM := Lib.hid hm
  have hE : errV (firstFault ms) = .nilIface := errV_nil hff
  have hne : ((n : Int) == 0) = false := by simp; omega
  have HFF := Lib.hid hff
  clear hff
  obtain rfl := hm.ptr hn0
  have hbs := hm.lt hn0
  obtain ⟨a', n', cap', b', off', m0, m1, m2, hb', hi'⟩ := hm.cell 0 hn0
  have m1' : w.cell? ⟨b, off + 1, none⟩ = some (.int .i64 (mx ms 0).cols) := by simpa using m1
  clear m0 m1 m2 hb' hi'
  go_enter Try.func24, Try.ntmps24
  go_wp2_with fail
  have hq : ∀ o, MatsAt (w.alloc o) (some ⟨b, off, none⟩) n cap b off ms := fun o => HM.out.keep ((Below.refl w.heap.size w).alloc (Nat.le_refl _) o)
  refine (check_any _ _ _ _ _ ms _ (hq _)).mono ?_
  rintro e w1 ⟨rfl, hb1⟩
  have B0 := (Box.new w [.int .i64 0, .int .i64 0, .slice none 0 0] 28).keep hb1
  have B0c := B0.cell
  have B0f := B0.thawed
  have B0z := B0.lt
  have B0k := lt_add B0z
  have hk1 : Below w.heap.size w w1 := (by repeat (first | fail | (with_reducible exact Below.refl _ _) | (with_reducible refine Below.al ?_ _) | (with_reducible refine Below.drN ?_ _) | (with_reducible refine Below.drew ?_) | (with_reducible refine Below.st ?_ ?_ _; rotate_left 1; (first | (dsimp only; omega) | omega | (simp; omega) | simp)) | (with_reducible refine Below.go ?_ hb1) | exact Below.refl _ _))
  have m1'' := (hk1.cell (p := ⟨b, off + 1, none⟩) hbs).trans m1'
  clear m1'
  have hw1 : w.heap.size < w1.heap.size := B0z
  go_wp2
  go_loopw [26] (fun i wr => ∃ (k : Nat) (v : Value), k ≤ n ∧ i = .int .i64 k ∧ Below w.heap.size w wr ∧ Box wr w.heap.size [.int .i64 0, .int .i64 0, .slice none 0 0] 28 ∧
      Box wr w1.heap.size [.int .i64 (rowsTo ms k), .int .i64 (mx ms 0).cols, v] 28 ∧ wr.ownsRow (w1.heap.size + 1) 3 1 v (cellsTo ms k).length ((cellsTo ms k).map (Value.int .i64)) ∧
      (∀ j, j < k → (mx ms j).cols = (mx ms 0).cols)) (fun i _ => n - (intOf i).toNat)
  case atStart => exact ⟨0, .slice none 0 0, Nat.zero_le _, rfl, hk1.al _, B0.alloc _, Box.new _ _ _, World.ownsRow_nil _ _ _ _, fun j hj => absurd hj (Nat.not_lt_zero _)⟩
  case round =>
    clear B0c B0f B0z B0k B0 m1''
    obtain ⟨k, v, hk, rfl, hb, B0, BO, hown, hpre⟩ := hrel
    have HP := Lib.hid hpre
    clear hpre
    obtain ⟨tb1, tb2, tb3⟩ := to_bd HFF.out k (by omega)
    have B0c := B0.cell
    have B0f := B0.thawed
    have BOc := BO.cell
    have BOf := BO.thawed
    have BOz := BO.lt
    have BOk := lt_add BOz
    have B0z := B0.lt
    have B0k := lt_add B0z
    by_cases hlt : k < n
    · obtain ⟨a', n', cap', b', off', m0, m1, m2, hb', hi'⟩ := HM.out.cell k hlt
      obtain ⟨fb1, fb2, fb3⟩ := fault_bd (firstFault_all HFF.out (j := k) (by omega))
      have c0 := (hb.cell (p := ⟨b, off + k * 3, none⟩) hbs).trans m0
      have c1 := (hb.cell (p := ⟨b, off + k * 3 + 1, none⟩) hbs).trans m1
      have c2 := (hb.cell (p := ⟨b, off + k * 3 + 2, none⟩) hbs).trans m2
      clear m0 m1 m2
      by_cases hcol : (mx ms k).cols = (mx ms 0).cols
      · have hcc : ((mx ms k).cols != (mx ms 0).cols) = false := by simp [hcol]
        have HCOL := Lib.hid hcol
        clear hcol
        have hln := hi'.len
        have hb8 : ((cellsTo ms k).length + n') * 8 ≤ 140737488355328 := by omega
        have HLN := Lib.hid hln
        clear hln
        have hvO : v.ownBlock ≠ some w1.heap.size := own_ne hown BO (by decide)
        have hv0 : v.ownBlock ≠ some w.heap.size := own_ne hown B0 (by decide)
        go_wp2_with (at_builtin; refine wpList_append_ints rfl (.tmp 44) (.tmp 46) 26 rfl (w1.heap.size + 1) 3 i0 Try.underlying26 hi hz0 hz1 hz2 v (cellsTo ms k).length (cellsTo ms k) rfl ?c1 a' n' cap' b' off' (mx ms k).cells rfl ?c2 hb8 ?c4 ?_)
        case c1 => exact (own_set hown hvO _).alloc _
        case c2 => exact hi'.keep (by repeat (first | fail | (with_reducible exact Below.refl _ _) | (with_reducible refine Below.al ?_ _) | (with_reducible refine Below.drN ?_ _) | (with_reducible refine Below.drew ?_) | (with_reducible refine Below.st ?_ ?_ _; rotate_left 1; (first | (dsimp only; omega) | omega | (simp; omega) | simp)) | (with_reducible refine Below.go ?_ hb) | exact Below.refl _ _))
        case c4 => simp; omega
        intro v' w' hown' hgrow'
        obtain ⟨av, cv, rfl⟩ := own_slice hown'
        clear B0c B0f BOc BOf c0 c1 c2
        have BN := ((BO.set 0 (.int .i64 (rowsTo ms k + (mx ms k).rows))).alloc _).grown hgrow' (Ne.symm hvO)
        have BNc := BN.cell
        have BNf := BN.thawed
        have BNz := BN.lt
        have BNk := lt_add BNz
        have B0n := ((B0.far (a := ⟨w1.heap.size, 0, none⟩) (by dsimp only; omega) (.int .i64 (rowsTo ms k + (mx ms k).rows))).alloc _).grown hgrow' (Ne.symm hv0)
        have hbn : Below w.heap.size w w' := Below.grown (Below.al (hb.st (by dsimp only; omega) _) _) hgrow' (by simp; omega) (fun q hq => by have := (hown.lt q hq).1; omega)
        have HO := Lib.hid hown'
        clear hown'
        go_wp2
        go_roundw
        case rel => exact ⟨k + 1, .slice av ((cellsTo ms k).length + n') cv, by omega, by go_num, hbn.st (by dsimp only; omega) _, B0n.far (by dsimp only; omega) _, by rw [rowsTo_succ]; exact BN.set 2 _, by
            rw [cellsTo_succ, List.length_append, HLN.out, List.map_append]; exact own_set HO.out (own_ne HO.out BN (by decide)) _, fun j hj => by
            by_cases e : j = k
            · rw [e]; exact HCOL.out
            · exact HP.out j (by omega)⟩
        case measure => simp [intOf]; omega
      · have hcc : ((mx ms k).cols != (mx ms 0).cols) = true := by simp [hcol]
        have hs : stackFault ms = 2 := by
          unfold stackFault
          rw [if_neg (by rw [HFF.out]; omega), if_neg (by omega), if_pos (fun hc => hcol (hc k (by omega)))]
        have HS := Lib.hid hs
        clear hs hcol
        go_wp2
        refine bodyPost_ret (v := .tuple #[.agg #[.int .i64 0, .int .i64 0, .slice none 0 0], .iface 62 (.int .i64 2)]) (by simp [results, Try.results24, go_sem, B0c, B0z]) rfl ⟨fun h => ?_, fun _ => ?_, (by repeat (first | fail | (with_reducible exact Below.refl _ _) | (with_reducible refine Below.al ?_ _) | (with_reducible refine Below.drN ?_ _) | (with_reducible refine Below.drew ?_) | (with_reducible refine Below.st ?_ ?_ _; rotate_left 1; (first | (dsimp only; omega) | omega | (simp; omega) | simp)) | (with_reducible refine Below.go ?_ hb) | exact Below.refl _ _))⟩
        · rw [HS.out] at h; omega
        · rw [HS.out]
    · obtain rfl : k = n := by omega
      obtain ⟨av, cv, rfl⟩ := own_slice hown
      obtain ⟨a2, cap2, b2, he, hbb, hin⟩ := IntsAt.of_own hown
      cases he
      have HO := Lib.hid hown
      clear hown
      have hsame : sameCols ms := fun j hj => HP.out j (by omega)
      by_cases h24 : 24 < rowsTo ms k
      · have hs : stackFault ms = 3 := by
          unfold stackFault
          rw [if_neg (by rw [HFF.out]; omega), if_neg (by omega), if_neg (fun hc => hc hsame), if_pos (by rw [hl]; exact h24)]
        have HS := Lib.hid hs
        clear hs hsame
        go_wp2
        refine bodyPost_ret (v := .tuple #[.agg #[.int .i64 0, .int .i64 0, .slice none 0 0], .iface 62 (.int .i64 3)]) (by simp [results, Try.results24, go_sem, B0c]) rfl ⟨fun h => ?_, fun _ => ?_, (by repeat (first | fail | (with_reducible exact Below.refl _ _) | (with_reducible refine Below.al ?_ _) | (with_reducible refine Below.drN ?_ _) | (with_reducible refine Below.drew ?_) | (with_reducible refine Below.st ?_ ?_ _; rotate_left 1; (first | (dsimp only; omega) | omega | (simp; omega) | simp)) | (with_reducible refine Below.go ?_ hb) | exact Below.refl _ _))⟩
        · rw [HS.out] at h; omega
        · rw [HS.out]
      · have hs : stackFault ms = 0 := by
          unfold stackFault
          rw [if_neg (by rw [HFF.out]; omega), if_neg (by omega), if_neg (fun hc => hc hsame), if_neg (by rw [hl]; exact h24)]
        have HS := Lib.hid hs
        clear hs hsame
        have hms : matStack ms = ⟨rowsTo ms k, (mx ms 0).cols, cellsTo ms k⟩ := by unfold matStack; rw [hl]
        have HMS := Lib.hid hms
        clear hms
        go_wp2
        refine bodyPost_ret (v := .tuple #[.agg #[.int .i64 (rowsTo ms k), .int .i64 (mx ms 0).cols, .slice av (cellsTo ms k).length cv], .nilIface]) (by simp [results, Try.results24, go_sem, B0c]) rfl ⟨fun _ => ⟨_, rfl, ?_⟩, fun h => absurd HS.out h, (by repeat (first | fail | (with_reducible exact Below.refl _ _) | (with_reducible refine Below.al ?_ _) | (with_reducible refine Below.drN ?_ _) | (with_reducible refine Below.drew ?_) | (with_reducible refine Below.st ?_ ?_ _; rotate_left 1; (first | (dsimp only; omega) | omega | (simp; omega) | simp)) | (with_reducible refine Below.go ?_ hb) | exact Below.refl _ _))⟩
        rw [HMS.out]
        exact MatNew.mk (fun h0 => by have := hbb h0; omega) (hin.set3 (fun h0 => by have := hbb h0; omega) _ _ _)
end Go.Proofs.Ytikcdjibflleeaa
