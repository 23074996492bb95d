/- Texts joined: Step2. -/
import Derived.Test.YtchngeagnlngaaaJ07
import Derived.Test.YtchngeagnlngaaaJ04
import Derived.Test.YtchngeagnlngaaaJ18
import Derived.Test.YtchngeagnlngaaaJ08
import Derived.Test.YtchngeagnlngaaaJ06
import Derived.Deep.WholeRow
import Derived.Deep.MidRow
section
set_option linter.unusedVariables false
set_option linter.unusedSimpArgs false
set_option linter.unusedSectionVars false
namespace Gal
open Go Go.RowKit
def quad {α : Type} (x0 x1 x2 x3 : α) : Nat → α | 0 => x0 | 1 => x1 | 2 => x2 | _ => x3
def pairM (v d : Grd) : Nat → Mat := quad v.W v.B d.W d.B
def pairL (l : Lay) : Nat → Mat := quad l.W l.B l.W l.B
theorem four {t : Nat} (h : t < 4) : t = 0 ∨ t = 1 ∨ t = 2 ∨ t = 3 := by omega
theorem fits_at {l : Lay} {v d : Grd} (h0 : l.fault = 0) {t : Nat} (ht : t < 4) (hz : ∀ u, u < t → (pairM v d u).fault = 0) (hn : (pairM v d t).fault ≠ 0) : fitsFault l v d = (pairM v d t).fault := by
 unfold fitsFault
 rw [if_neg (by simp [h0])]
 rcases four ht with rfl | rfl | rfl | rfl
 ·rw [if_pos (show v.W.fault ≠ 0 from hn)]; rfl
 ·rw [if_neg (by simpa using (show v.W.fault = 0 from hz 0 (by omega))), if_pos (show v.B.fault ≠ 0 from hn)]; rfl
 ·rw [if_neg (by simpa using (show v.W.fault = 0 from hz 0 (by omega))), if_neg (by simpa using (show v.B.fault = 0 from hz 1 (by omega))), if_pos (show d.W.fault ≠ 0 from hn)]; rfl
 ·rw [if_neg (by simpa using (show v.W.fault = 0 from hz 0 (by omega))), if_neg (by simpa using (show v.B.fault = 0 from hz 1 (by omega))), if_neg (by simpa using (show d.W.fault = 0 from hz 2 (by omega))), if_pos (show d.B.fault ≠ 0 from hn)]; rfl
theorem fits_tail {l : Lay} {v d : Grd} (h0 : l.fault = 0) (hz : ∀ u, u < 4 → (pairM v d u).fault = 0) : fitsFault l v d = if likeShape v.W l.W ∧ likeShape v.B l.B ∧ likeShape d.W l.W ∧ likeShape d.B l.B then 0 else 2 := by
 unfold fitsFault
 rw [if_neg (by simp [h0]), if_neg (by simpa using (show v.W.fault = 0 from hz 0 (by omega))), if_neg (by simpa using (show v.B.fault = 0 from hz 1 (by omega))), if_neg (by simpa using (show d.W.fault = 0 from hz 2 (by omega))), if_neg (by simpa using (show d.B.fault = 0 from hz 3 (by omega)))]
theorem fits_shape {l : Lay} {v d : Grd} (h0 : l.fault = 0) (hz : ∀ u, u < 4 → (pairM v d u).fault = 0) {t : Nat} (ht : t < 4) (hs : ¬ likeShape (pairM v d t) (pairL l t)) : fitsFault l v d = 2 := by
 rw [fits_tail h0 hz, if_neg]
 rintro ⟨s0, s1, s2, s3⟩
 rcases four ht with rfl | rfl | rfl | rfl
 ·exact hs s0
 ·exact hs s1
 ·exact hs s2
 ·exact hs s3
theorem fits_fine {l : Lay} {v d : Grd} (h0 : l.fault = 0) (hz : ∀ u, u < 4 → (pairM v d u).fault = 0) (hs : ∀ u, u < 4 → likeShape (pairM v d u) (pairL l u)) : fitsFault l v d = 0 := by
 rw [fits_tail h0 hz, if_pos ⟨hs 0 (by omega), hs 1 (by omega), hs 2 (by omega), hs 3 (by omega)⟩]
theorem wpList_store_new {P : Program} {ops : Array Oper} {rest : List Oper} {op : Oper} {a : Act} {w : World} {Q : Exit → Act → World → Prop} (hgd : op.guard = none) (ty : TypeId) (x y : Operand) (ho : op.op = .store ty x y)
  (c c' : Array Value) (hx : a.eval x = .pointer (some ⟨w.heap.size, 0, none⟩)) (hy : a.eval y = .agg c') (hi : (P.info? ty).map (·.size) = some c'.size) (hs : c.size = c'.size) (h1 : c'.all (·.oneCell') = true)
  (h : wpList P ops Q rest (a.put op.dst undef) (w.alloc (.cells c' ty))) : wpList P ops Q (op :: rest) a (w.alloc (.cells c ty)) :=
 wpList_plain hgd fun _ hK => by
  unfold Oper.wp execOp
  simp only [ho, hx, hy, Instr.storeAt, Instr.sureAddr, Sem.run_bind, Sem.run_pure, Result.andThen_ok, run_storeVar_new w ty c c' hi hs h1]
  exact hK _ _ h
end Gal
namespace Go.Proofs.Ytchngeagnlngaaa
open Go.RowKit Gal
set_option maxRecDepth 100000
set_option maxHeartbeats 2000000
theorem fits_any (l : Lay) (v d : Grd) (a0 a1 a2 a3 a4 a5 : Option Addr) (n0 n1 n2 n3 n4 n5 k0 k1 k2 k3 k4 k5 b0 b1 b2 b3 b4 b5 o0 o1 o2 o3 o4 o5 : Nat) (w : World)
    (x0 : IntsAt w a0 n0 k0 b0 o0 l.W.cells) (x1 : IntsAt w a1 n1 k1 b1 o1 l.B.cells) (x2 : IntsAt w a2 n2 k2 b2 o2 v.W.cells) (x3 : IntsAt w a3 n3 k3 b3 o3 v.B.cells) (x4 : IntsAt w a4 n4 k4 b4 o4 d.W.cells) (x5 : IntsAt w a5 n5 k5 b5 o5 d.B.cells) :
    Calls Try.prog 37 #[.agg #[.int .i64 l.kind, .int .i64 l.W.rows, .int .i64 l.W.cols, .slice a0 n0 k0, .int .i64 l.B.rows, .int .i64 l.B.cols, .slice a1 n1 k1],
      .agg #[.int .i64 v.W.rows, .int .i64 v.W.cols, .slice a2 n2 k2, .int .i64 v.B.rows, .int .i64 v.B.cols, .slice a3 n3 k3],
      .agg #[.int .i64 d.W.rows, .int .i64 d.W.cols, .slice a4 n4 k4, .int .i64 d.B.rows, .int .i64 d.B.cols, .slice a5 n5 k5]] w fun e w' =>
      e = .returned (errV (fitsFault l v d)) ∧ Below w.heap.size w w' := by
  by_cases hl : l.fault = 0
  · obtain ⟨arr, harr⟩ : ∃ arr : List Value, arr = [.int .i64 v.W.rows, .int .i64 v.W.cols, .slice a2 n2 k2, .int .i64 l.W.rows, .int .i64 l.W.cols, .slice a0 n0 k0, .int .i64 v.B.rows, .int .i64 v.B.cols, .slice a3 n3 k3, .int .i64 l.B.rows, .int .i64 l.B.cols, .slice a1 n1 k1,
        .int .i64 d.W.rows, .int .i64 d.W.cols, .slice a4 n4 k4, .int .i64 l.W.rows, .int .i64 l.W.cols, .slice a0 n0 k0, .int .i64 d.B.rows, .int .i64 d.B.cols, .slice a5 n5 k5, .int .i64 l.B.rows, .int .i64 l.B.cols, .slice a1 n1 k1] := ⟨_, rfl⟩
    have HIX : Hid (∀ t, t < 4 → ∃ (m lm : Mat) (a : Option Addr) (n k b o : Nat) (a' : Option Addr) (n' k' : Nat), m = pairM v d t ∧ lm = pairL l t ∧ IntsAt w a n k b o m.cells ∧
        ∀ W, (Instr.index 165 (.agg arr.toArray) (.int .i64 (t : Int))).run Try.prog W = .ok (.agg #[.int .i64 m.rows, .int .i64 m.cols, .slice a n k, .int .i64 lm.rows, .int .i64 lm.cols, .slice a' n' k']) W) := by
      refine Lib.hid fun t ht => ?_
      subst harr
      rcases four ht with rfl | rfl | rfl | rfl
      · exact ⟨v.W, l.W, a2, n2, k2, b2, o2, a0, n0, k0, rfl, rfl, x2, fun W => by kernel_rfl⟩
      · exact ⟨v.B, l.B, a3, n3, k3, b3, o3, a1, n1, k1, rfl, rfl, x3, fun W => by kernel_rfl⟩
      · exact ⟨d.W, l.W, a4, n4, k4, b4, o4, a0, n0, k0, rfl, rfl, x4, fun W => by kernel_rfl⟩
      · exact ⟨d.B, l.B, a5, n5, k5, b5, o5, a1, n1, k1, rfl, rfl, x5, fun W => by kernel_rfl⟩
    have HL := Lib.hid hl
    have HARR := Lib.hid harr
    have HE : errV l.fault = .nilIface := errV_nil hl
    clear hl harr
    go_enter Try.func37, Try.ntmps37
    go_wp2_with fail
    refine (layCheck_any l _ _ ⟨a0, n0, k0, b0, o0, a1, n1, k1, b1, o1, rfl, (x0.alloc _ |>.alloc _ |>.alloc _), (x1.alloc _ |>.alloc _ |>.alloc _)⟩).mono ?_
    rw [HE]
    rintro e w1 ⟨rfl, hb1⟩
    have B0 := ((show Box _ w.heap.size [.int .i64 l.kind, .int .i64 l.W.rows, .int .i64 l.W.cols, .slice a0 n0 k0, .int .i64 l.B.rows, .int .i64 l.B.cols, .slice a1 n1 k1] 69 from Box.x0)).keep hb1
    have B0c := B0.cell
    have B0f := B0.thawed
    have B0z := B0.lt
    have B0k := lt_add B0z
    have B1 := ((show Box _ (w.heap.size + 1) [.int .i64 v.W.rows, .int .i64 v.W.cols, .slice a2 n2 k2, .int .i64 v.B.rows, .int .i64 v.B.cols, .slice a3 n3 k3] 93 from Box.x0)).keep hb1
    have B1c := B1.cell
    have B1f := B1.thawed
    have B1z := B1.lt
    have B1k := lt_add B1z
    have B2 := ((show Box _ (w.heap.size + 1 + 1) [.int .i64 d.W.rows, .int .i64 d.W.cols, .slice a4 n4 k4, .int .i64 d.B.rows, .int .i64 d.B.cols, .slice a5 n5 k5] 93 from Box.x0)).keep hb1
    have B2c := B2.cell
    have B2f := B2.thawed
    have B2z := B2.lt
    have B2k := lt_add B2z
    have HI : Hid ((Try.prog.info? 165).map (·.size) = some arr.toArray.size) := Lib.hid (by rw [HARR.out]; kernel_rfl)
    have HALL : Hid (arr.toArray.all (·.oneCell') = true) := Lib.hid (by rw [HARR.out]; simp [Value.oneCell'])
    have HS : Hid ((24 : Nat) = arr.toArray.size) := Lib.hid (by rw [HARR.out]; rfl)
    have hbw : Below w.heap.size w w1 := (Below.x1 hb1)
    go_wp2_with (first | refine wpList_store_new rfl 165 (.tmp 8) (.tmp 39) rfl _ arr.toArray rfl (by rw [HARR.out]; rfl) HI.out HS.out HALL.out ?_ | refine wpList_load_row rfl 165 (.tmp 8) rfl w1.heap.size rfl 165 arr.toArray (0, 0) _ (heap_alloc_last w1 _) Try.underlying165 rfl HI.out ?_)
    have P0 : Box (w1.alloc (.cells arr.toArray 165)) w1.heap.size arr 165 := Box.new _ _ _
    obtain ⟨w2, hw2, P8, hb2⟩ : ∃ w2, w1.alloc (.cells arr.toArray 165) = w2 ∧ Box w2 w1.heap.size arr 165 ∧ Below w.heap.size w w2 := ⟨_, rfl, P0, (Below.y0 hbw)⟩
    rw [hw2]
    clear hw2 P0 B0 B0c B0f B0z B0k B1 B1c B1f B1z B1k B2 B2c B2f B2z B2k x0 x1 x2 x3 x4 x5 hbw HE
    go_loopw [41] (fun i wr => ∃ t : Nat, t ≤ 4 ∧ i = .int .i64 t ∧ Hid (∀ u, u < t → (pairM v d u).fault = 0) ∧ Box wr w1.heap.size arr 165 ∧ Below w.heap.size w wr) (fun i _ => 4 - (intOf i).toNat)
    case atStart => exact ⟨0, by omega, rfl, Lib.hid fun u hu => absurd hu (Nat.not_lt_zero _), P8, hb2⟩
    case round =>
      obtain ⟨t, ht, rfl, HZ, Q8, hbr⟩ := hrel
      by_cases hlt : t < 4
      · obtain ⟨m, lm, a, n, k, b, o, a', n', k', hm, hlm, xm, hix⟩ := HIX.out t hlt
        have hltI : (t : Int) < 4 := by omega
        have xr := xm.keep hbr
        have HM := Lib.hid hm
        clear hm hlm xm P8
        by_cases hf : m.fault = 0
        · have HE2 : Hid (errV (matFault m.rows m.cols m.cells) = .nilIface) := Lib.hid (errV_nil hf)
          have HF := Lib.hid hf
          clear hf
          go_wp2_with fail
          refine (matCheck_any _ _ _ _ _ _ _ m.cells _ (show IntsAt _ a n k b o m.cells from xr.k)).mono ?_
          rw [HE2.out]
          rintro e w3 ⟨rfl, hb3⟩
          have hbe : Below w.heap.size w w3 := (Below.y1 hb3 hbr)
          have Q9 : Box w3 w1.heap.size arr 165 := (by first | exact Q8.k1 hb3 | exact Q8.k)
          go_wp2
          go_roundw
          case rel => exact ⟨t + 1, by omega, by go_num, Lib.hid fun u hu => by
            rcases Nat.lt_or_ge u t with g | g
            · exact HZ.out u g
            · obtain rfl : u = t := by omega
              rw [← HM.out]; exact HF.out, Q9, hbe⟩
          case measure => simp [intOf]; omega
        · have HE2 : Hid (errV (matFault m.rows m.cols m.cells) = .iface 62 (.int .i64 m.fault)) := Lib.hid (errV_err hf)
          have HR : Hid (errV (fitsFault l v d) = .iface 62 (.int .i64 m.fault)) := Lib.hid (by rw [fits_at HL.out hlt HZ.out (by rw [← HM.out]; exact hf), ← HM.out]; exact errV_err hf)
          clear hf
          go_wp2_with fail
          refine (matCheck_any _ _ _ _ _ _ _ m.cells _ (show IntsAt _ a n k b o m.cells from xr.k)).mono ?_
          rw [HE2.out]
          rintro e w3 ⟨rfl, hb3⟩
          have hbe : Below w.heap.size w w3 := (Below.y1 hb3 hbr)
          go_wp2
          go_ret
          exact ⟨by rw [HR.out]; rfl, hbe⟩
      · obtain rfl : t = 4 := by omega
        clear P8
        go_wp2_with (refine wpList_load_row rfl 165 (.tmp 8) rfl w1.heap.size rfl 165 arr.toArray (0, 0) _ Q8 Try.underlying165 rfl HI.out ?_)
        go_loopw [52] (fun i wr' => ∃ t : Nat, t ≤ 4 ∧ i = .int .i64 t ∧ Hid (∀ u, u < t → likeShape (pairM v d u) (pairL l u)) ∧ Below w.heap.size w wr') (fun i _ => 4 - (intOf i).toNat)
        case atStart => exact ⟨0, by omega, rfl, Lib.hid fun u hu => absurd hu (Nat.not_lt_zero _), hbr⟩
        case round =>
          obtain ⟨t, ht, rfl, HK, hbs⟩ := hrel
          by_cases hlt : t < 4
          · obtain ⟨m, lm, a, n, k, b, o, a', n', k', hm, hlm, xm, hix⟩ := HIX.out t hlt
            have hltI : (t : Int) < 4 := by omega
            have HM := Lib.hid hm
            have HLM := Lib.hid hlm
            clear hm hlm xm Q8
            by_cases hr : m.rows = lm.rows
            · have q3 : (m.rows != lm.rows) = false := by simp [hr]
              by_cases hc : m.cols = lm.cols
              · have q4 : (m.cols != lm.cols) = false := by simp [hc]
                have HB := Lib.hid hr
                have HC := Lib.hid hc
                clear hr hc
                go_wp2
                go_roundw
                case rel => exact ⟨t + 1, by omega, by go_num, Lib.hid fun u hu => by
                  rcases Nat.lt_or_ge u t with g | g
                  · exact HK.out u g
                  · obtain rfl : u = t := by omega
                    rw [← HM.out, ← HLM.out]; exact ⟨HB.out, HC.out⟩, (Below.y0 hbs)⟩
                case measure => simp [intOf]; omega
              · have q4 : (m.cols != lm.cols) = true := by simp [hc]
                have HR : Hid (errV (fitsFault l v d) = .iface 62 (.int .i64 2)) := Lib.hid (by rw [fits_shape HL.out HZ.out hlt (by rw [← HM.out, ← HLM.out]; exact fun h => hc h.2)]; exact errV_err (by decide))
                clear hr hc
                go_wp2
                go_ret
                exact ⟨by rw [HR.out]; rfl, (Below.y0 hbs)⟩
            · have q3 : (m.rows != lm.rows) = true := by simp [hr]
              have HR : Hid (errV (fitsFault l v d) = .iface 62 (.int .i64 2)) := Lib.hid (by rw [fits_shape HL.out HZ.out hlt (by rw [← HM.out, ← HLM.out]; exact fun h => hr h.1)]; exact errV_err (by decide))
              clear hr
              go_wp2
              go_ret
              exact ⟨by rw [HR.out]; rfl, (Below.y0 hbs)⟩
          · obtain rfl : t = 4 := by omega
            have HR : Hid (errV (fitsFault l v d) = .nilIface) := Lib.hid (by rw [fits_fine HL.out HZ.out HK.out]; exact errV_nil rfl)
            go_wp2
            go_ret
            exact ⟨by rw [HR.out]; rfl, (Below.y0 hbs)⟩
  · have HE : errV l.fault = .iface 62 (.int .i64 l.fault) := errV_err hl
    have HF : errV (fitsFault l v d) = errV l.fault := by unfold fitsFault; rw [if_pos hl]
    rw [HF, HE]
    clear HF hl
    go_enter Try.func37, Try.ntmps37
    go_wp2_with fail
    refine (layCheck_any l _ _ ⟨a0, n0, k0, b0, o0, a1, n1, k1, b1, o1, rfl, x0.k, x1.k⟩).mono ?_
    rw [HE]
    rintro e w1 ⟨rfl, hb1⟩
    go_wp2_with fail
    go_ret
    exact ⟨rfl, (Below.x1 hb1)⟩
end Go.Proofs.Ytchngeagnlngaaa
end
