/- Texts joined: Step3. -/
import Derived.Test.YtchngeagnlngaaaJ19
import Derived.Test.YtchngeagnlngaaaJ20
import Derived.Test.YtchngeagnlngaaaJ03
import Derived.Test.YtchngeagnlngaaaJ21
import Derived.Deep.DeepCutAuto
import Derived.Deep.RegionHeld3
section
set_option linter.unusedVariables false
set_option linter.unusedSimpArgs false
set_option linter.unusedSectionVars false
namespace Gal
open Go Go.RowKit
theorem fault_len {m : Mat} (h : m.fault = 0) : m.cells.length ≤ 288 ∧ (m.cells.length : Int) = m.rows * m.cols := by
 obtain ⟨R, C, hr, hc, hR, hC, hl, _⟩ := matFault_ok h
 refine ⟨?_, by rw [hr, hc, hl]; push_cast; rfl⟩
 rw [hl]
 exact Nat.le_trans (Nat.mul_le_mul hR hC) (by decide)
theorem fits_lens {l : Lay} {v d : Grd} (h : fitsFault l v d = 0) : l.W.cells.length ≤ 288 ∧ l.B.cells.length ≤ 288 ∧ v.W.cells.length = l.W.cells.length ∧ v.B.cells.length = l.B.cells.length ∧ d.W.cells.length = l.W.cells.length ∧ d.B.cells.length = l.B.cells.length := by
 obtain ⟨h0, h1, h2, h3, h4, ⟨h5, h5'⟩, ⟨h6, h6'⟩, ⟨h7, h7'⟩, ⟨h8, h8'⟩⟩ := fitsFault_ok h
 obtain ⟨_, _, hW, hB, _⟩ := Lay.fault_ok h0
 have e0 := fault_len hW
 have e1 := fault_len hB
 have e2 := fault_len h1
 have e3 := fault_len h2
 have e4 := fault_len h3
 have e5 := fault_len h4
 rw [h5, h5'] at e2
 rw [h6, h6'] at e3
 rw [h7, h7'] at e4
 rw [h8, h8'] at e5
 omega
end Gal
namespace Go.Proofs.Ytchngeagnlngaaa
open Go.RowKit Gal
set_option maxRecDepth 100000
set_option maxHeartbeats 2000000
theorem info_layer : (Try.prog.info? 69).map (fun i => (i.zero, i.size, i.bytes)) = some (some (.agg #[.int .i64 0, .int .i64 0, .int .i64 0, .slice none 0 0, .int .i64 0, .int .i64 0, .slice none 0 0]), 7, 88) := by kernel_rfl
section
variable (ls : List Lay) (vs ds : List Grd) (ln kp : Int) (F G H : Nat → Prop) (a0 a1 a2 : Option Addr) (n n1 n2 k0 k1 k2 b0 b1 b2 o0 o1 o2 : Nat) (w : World) (h0 : RowAt Form.lay w F a0 n k0 b0 o0 ls) (h1 : RowAt Form.grd w G a1 n1 k1 b1 o1 vs) (h2 : RowAt Form.grd w H a2 n2 k2 b2 o2 ds)
include h0 h1 h2
theorem stepDo_range (hb : ln < 0 ∨ 256 < ln ∨ kp < 0 ∨ 256 < kp) :
    Calls Try.prog 11 #[.slice a0 n k0, .slice a1 n1 k1, .slice a2 n2 k2, .agg #[.int .i64 ln, .int .i64 kp]] w fun e w' => ∃ v d, e = .returned (.tuple #[v, d, errV (stepFault ls vs ds ln kp)]) ∧ Below w.heap.size w w' ∧
          (stepFault ls vs ds ln kp = 0 → ∃ a' b' a'' b'', v = .slice a' n n ∧ d = .slice a'' n n ∧ RowAt Form.lay w' (newB w.heap.size) a' n n b' 0 (stepLays ls vs ds ln kp n) ∧ RowAt Form.grd w' (newB w.heap.size) a'' n n b'' 0 (stepGrds ls vs ds kp n)) ∧
          (stepFault ls vs ds ln kp ≠ 0 → v = .slice none 0 0 ∧ d = .slice none 0 0)
  := by
  have hf : stepFault ls vs ds ln kp = 1 := by unfold stepFault; rw [if_pos hb]
  rw [hf, errV_err (by decide)]
  clear hf h0 h1 h2
  by_cases q1 : ln < 0
  · clear hb
    have g1 : decide (ln < 0) = true := by simp [q1]
    go_enter Try.func11, Try.ntmps11
    go_wp2
    refine bodyPost_ret (v := .tuple #[.slice none 0 0, .slice none 0 0, .iface 62 (.int .i64 1)]) (by simp [results, Try.results11, go_sem]) rfl ⟨.slice none 0 0, .slice none 0 0, ?_, ?_, ?_, ?_⟩
    · rfl
    · exact Below.x0
    · exact fun h => absurd h (by decide)
    · exact fun _ => ⟨rfl, rfl⟩
  · have g1 : decide (ln < 0) = false := by simp; omega
    by_cases q2 : 256 < ln
    · clear hb q1
      have g2 : decide (256 < ln) = true := by simp [q2]
      go_enter Try.func11, Try.ntmps11
      go_wp2
      refine bodyPost_ret (v := .tuple #[.slice none 0 0, .slice none 0 0, .iface 62 (.int .i64 1)]) (by simp [results, Try.results11, go_sem]) rfl ⟨.slice none 0 0, .slice none 0 0, ?_, ?_, ?_, ?_⟩
      · rfl
      · exact Below.x0
      · exact fun h => absurd h (by decide)
      · exact fun _ => ⟨rfl, rfl⟩
    · have g2 : decide (256 < ln) = false := by simp; omega
      by_cases q3 : kp < 0
      · clear hb q1 q2
        have g3 : decide (kp < 0) = true := by simp [q3]
        go_enter Try.func11, Try.ntmps11
        go_wp2
        refine bodyPost_ret (v := .tuple #[.slice none 0 0, .slice none 0 0, .iface 62 (.int .i64 1)]) (by simp [results, Try.results11, go_sem]) rfl ⟨.slice none 0 0, .slice none 0 0, ?_, ?_, ?_, ?_⟩
        · rfl
        · exact Below.x0
        · exact fun h => absurd h (by decide)
        · exact fun _ => ⟨rfl, rfl⟩
      · have g3 : decide (kp < 0) = false := by simp; omega
        have g4 : decide (256 < kp) = true := by simp; omega
        clear hb q1 q2 q3
        go_enter Try.func11, Try.ntmps11
        go_wp2
        refine bodyPost_ret (v := .tuple #[.slice none 0 0, .slice none 0 0, .iface 62 (.int .i64 1)]) (by simp [results, Try.results11, go_sem]) rfl ⟨.slice none 0 0, .slice none 0 0, ?_, ?_, ?_, ?_⟩
        · rfl
        · exact Below.x0
        · exact fun h => absurd h (by decide)
        · exact fun _ => ⟨rfl, rfl⟩
theorem stepDo_sizes (hb : ¬ (ln < 0 ∨ 256 < ln ∨ kp < 0 ∨ 256 < kp)) (hs : 12 < n ∨ n1 ≠ n ∨ n2 ≠ n) :
    Calls Try.prog 11 #[.slice a0 n k0, .slice a1 n1 k1, .slice a2 n2 k2, .agg #[.int .i64 ln, .int .i64 kp]] w fun e w' => ∃ v d, e = .returned (.tuple #[v, d, errV (stepFault ls vs ds ln kp)]) ∧ Below w.heap.size w w' ∧
          (stepFault ls vs ds ln kp = 0 → ∃ a' b' a'' b'', v = .slice a' n n ∧ d = .slice a'' n n ∧ RowAt Form.lay w' (newB w.heap.size) a' n n b' 0 (stepLays ls vs ds ln kp n) ∧ RowAt Form.grd w' (newB w.heap.size) a'' n n b'' 0 (stepGrds ls vs ds kp n)) ∧
          (stepFault ls vs ds ln kp ≠ 0 → v = .slice none 0 0 ∧ d = .slice none 0 0)
  := by
  have hl0 := h0.len
  have hl1 := h1.len
  have hl2 := h2.len
  have hm0 := h0.max
  have hm1 := h1.max
  have hm2 := h2.max
  unfold maxLen at hm0 hm1 hm2
  have g1 : decide (ln < 0) = false := by simp; omega
  have g2 : decide (256 < ln) = false := by simp; omega
  have g3 : decide (kp < 0) = false := by simp; omega
  have g4 : decide (256 < kp) = false := by simp; omega
  by_cases q1 : 12 < n
  · have hf : stepFault ls vs ds ln kp = 3 := by unfold stepFault; rw [if_neg hb, if_pos (by omega)]
    rw [hf, errV_err (by decide)]
    clear hf h0 h1 h2 hb hl0 hl1 hl2 hs
    go_enter Try.func11, Try.ntmps11
    go_wp2
    refine bodyPost_ret (v := .tuple #[.slice none 0 0, .slice none 0 0, .iface 62 (.int .i64 3)]) (by simp [results, Try.results11, go_sem]) rfl ⟨.slice none 0 0, .slice none 0 0, ?_, ?_, ?_, ?_⟩
    · rfl
    · exact Below.x0
    · exact fun h => absurd h (by decide)
    · exact fun _ => ⟨rfl, rfl⟩
  · have hf : stepFault ls vs ds ln kp = 2 := by unfold stepFault; rw [if_neg hb, if_neg (by omega), if_pos (by omega)]
    rw [hf, errV_err (by decide)]
    clear hf h0 h1 h2 hb hl0 hl1 hl2
    by_cases q2 : n1 = n
    · have q3 : n2 ≠ n := by omega
      have g5 : ((n1 : Int) != (n : Int)) = false := by simp [q2]
      have g6 : ((n2 : Int) != (n : Int)) = true := by simp; omega
      clear hs q2 q3
      go_enter Try.func11, Try.ntmps11
      go_wp2
      refine bodyPost_ret (v := .tuple #[.slice none 0 0, .slice none 0 0, .iface 62 (.int .i64 2)]) (by simp [results, Try.results11, go_sem]) rfl ⟨.slice none 0 0, .slice none 0 0, ?_, ?_, ?_, ?_⟩
      · rfl
      · exact Below.x0
      · exact fun h => absurd h (by decide)
      · exact fun _ => ⟨rfl, rfl⟩
    · have g5 : ((n1 : Int) != (n : Int)) = true := by simp; omega
      clear hs q2
      go_enter Try.func11, Try.ntmps11
      go_wp2
      refine bodyPost_ret (v := .tuple #[.slice none 0 0, .slice none 0 0, .iface 62 (.int .i64 2)]) (by simp [results, Try.results11, go_sem]) rfl ⟨.slice none 0 0, .slice none 0 0, ?_, ?_, ?_, ?_⟩
      · rfl
      · exact Below.x0
      · exact fun h => absurd h (by decide)
      · exact fun _ => ⟨rfl, rfl⟩
end
end Go.Proofs.Ytchngeagnlngaaa
end
