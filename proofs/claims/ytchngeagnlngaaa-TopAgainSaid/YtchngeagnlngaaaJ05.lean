/- Texts joined: Lay1. -/
import Derived.Test.YtchngeagnlngaaaJ04
import Derived.Test.YtchngeagnlngaaaJ03
import Derived.Test.YtchngeagnlngaaaJ02
section
set_option linter.unusedVariables false
set_option linter.unusedSimpArgs false
namespace Go.Proofs.Ytchngeagnlngaaa
open Go.RowKit Gal
theorem of_any (k : Int) (w : World) : Calls Try.prog 71 #[.int .i64 k] w fun e w' => e = .returned (if k = 1 then .iface 201 (.agg #[]) else if k = 2 then .iface 204 (.agg #[]) else if k = 3 then .iface 205 (.agg #[]) else if k = 4 then .iface 206 (.agg #[]) else .nilIface) ∧ w = w' := by
 by_cases h1 : k = 1
 ·subst h1
  rw [if_pos rfl]
  go_enter Try.func71, Try.ntmps71
  go_wp2
  go_ret
  exact ⟨rfl, rfl⟩
 ·by_cases h2 : k = 2
  ·subst h2
   rw [if_neg h1, if_pos rfl]
   go_enter Try.func71, Try.ntmps71
   go_wp2
   go_ret
   exact ⟨rfl, rfl⟩
  ·by_cases h3 : k = 3
   ·subst h3
    rw [if_neg h1, if_neg h2, if_pos rfl]
    go_enter Try.func71, Try.ntmps71
    go_wp2
    go_ret
    exact ⟨rfl, rfl⟩
   ·by_cases h4 : k = 4
    ·subst h4
     rw [if_neg h1, if_neg h2, if_neg h3, if_pos rfl]
     go_enter Try.func71, Try.ntmps71
     go_wp2
     go_ret
     exact ⟨rfl, rfl⟩
    ·rw [if_neg h1, if_neg h2, if_neg h3, if_neg h4]
     have q1 : (k == 1) = false := by simp [h1]
     have q2 : (k == 2) = false := by simp [h2]
     have q3 : (k == 3) = false := by simp [h3]
     have q4 : (k == 4) = false := by simp [h4]
     clear h1 h2 h3 h4
     go_enter Try.func71, Try.ntmps71
     go_wp2
     go_ret
     exact ⟨rfl, rfl⟩
theorem of_1 (w : World) : Calls Try.prog 71 #[.int .i64 1] w fun e w' => e = .returned (.iface 201 (.agg #[])) ∧ w = w' := of_any 1 w
theorem of_2 (w : World) : Calls Try.prog 71 #[.int .i64 2] w fun e w' => e = .returned (.iface 204 (.agg #[])) ∧ w = w' := of_any 2 w
theorem of_3 (w : World) : Calls Try.prog 71 #[.int .i64 3] w fun e w' => e = .returned (.iface 205 (.agg #[])) ∧ w = w' := of_any 3 w
theorem of_4 (w : World) : Calls Try.prog 71 #[.int .i64 4] w fun e w' => e = .returned (.iface 206 (.agg #[])) ∧ w = w' := of_any 4 w
theorem empty_any (r c : Int) (s : Value) (w : World) (hs : ∃ a n k, s = .slice a n k) : Calls Try.prog 152 #[.agg #[.int .i64 r, .int .i64 c, s]] w fun e w' => e = .returned (.bool (decide (r = 0 ∧ c = 0))) ∧ Below w.heap.size w w' := by
 obtain ⟨a, n, k, rfl⟩ := hs
 by_cases h1 : r = 0
 ·by_cases h2 : c = 0
  ·subst h1 h2
   rw [decide_eq_true ⟨rfl, rfl⟩]
   go_enter Try.func152, Try.ntmps152
   go_wp2
   go_ret
   exact ⟨rfl, Below.x0⟩
  ·subst h1
   rw [decide_eq_false (fun h => h2 h.2)]
   have q : (c == 0) = false := by simp [h2]
   clear h2
   go_enter Try.func152, Try.ntmps152
   go_wp2
   go_ret
   exact ⟨rfl, Below.x0⟩
 ·rw [decide_eq_false (fun h => h1 h.1)]
  have q : (r == 0) = false := by simp [h1]
  clear h1
  go_enter Try.func152, Try.ntmps152
  go_wp2
  go_ret
  exact ⟨rfl, Below.x0⟩
section
variable (l : Lay) (sw sb : Value) (w : World) (hsw : ∃ a n k, sw = .slice a n k) (hsb : ∃ a n k, sb = .slice a n k)
include hsw hsb
set_option maxRecDepth 100000
set_option maxHeartbeats 1000000
theorem fits_1 (hk : l.kind = 1) : Calls Try.prog 135 #[.agg #[], .agg #[.int .i64 l.kind, .int .i64 l.W.rows, .int .i64 l.W.cols, sw, .int .i64 l.B.rows, .int .i64 l.B.cols, sb]] w fun e w' => e = .returned (.bool (decide l.fits)) ∧ Below w.heap.size w w' := by
 have hd : decide l.fits = (decide (0 < l.W.rows) && decide (0 < l.W.cols) && decide (l.W.rows ≤ 12) && (l.B.rows == 1) && (l.B.cols == l.W.cols)) := by
  rw [Bool.eq_iff_iff]
  simp only [decide_eq_true_eq, Bool.and_eq_true, beq_iff_eq]
  unfold Lay.fits
  rw [hk]
  omega
 rw [hd]
 clear hd
 obtain ⟨a, n, k, rfl⟩ := hsw
 obtain ⟨a', n', k', rfl⟩ := hsb
 generalize l.kind = kd at *
 clear hk
 generalize l.W.rows = r0 at *
 generalize l.W.cols = c0 at *
 generalize l.B.rows = r1 at *
 generalize l.B.cols = c1 at *
 cases h1 : decide (0 < r0)
 ·go_enter Try.func135, Try.ntmps135
  go_wp2
  go_ret
  exact ⟨by simp, Below.x0⟩
 ·cases h2 : decide (0 < c0)
  ·go_enter Try.func135, Try.ntmps135
   go_wp2
   go_ret
   exact ⟨by simp, Below.x0⟩
  ·cases h3 : decide (r0 ≤ 12)
   ·go_enter Try.func135, Try.ntmps135
    go_wp2
    go_ret
    exact ⟨by simp, Below.x0⟩
   ·cases h4 : (r1 == 1)
    ·go_enter Try.func135, Try.ntmps135
     go_wp2
     go_ret
     exact ⟨by simp, Below.x0⟩
    ·cases h5 : (c1 == c0)
     all_goals
      go_enter Try.func135, Try.ntmps135
      go_wp2
      go_ret
      exact ⟨by simp, Below.x0⟩
theorem fits_2 (hk : l.kind = 2) : Calls Try.prog 149 #[.agg #[], .agg #[.int .i64 l.kind, .int .i64 l.W.rows, .int .i64 l.W.cols, sw, .int .i64 l.B.rows, .int .i64 l.B.cols, sb]] w fun e w' => e = .returned (.bool (decide l.fits)) ∧ Below w.heap.size w w' := by
 have hd : decide l.fits = (decide (l.W.rows = 0 ∧ l.W.cols = 0) && decide (l.B.rows = 0 ∧ l.B.cols = 0)) := by
  rw [Bool.eq_iff_iff]
  simp only [decide_eq_true_eq, Bool.and_eq_true, beq_iff_eq]
  unfold Lay.fits Mat.empty
  rw [hk]
  omega
 rw [hd]
 clear hd
 obtain ⟨a, n, k, rfl⟩ := hsw
 obtain ⟨a', n', k', rfl⟩ := hsb
 generalize l.kind = kd at *
 clear hk
 generalize l.W.rows = r0 at *
 generalize l.W.cols = c0 at *
 generalize l.B.rows = r1 at *
 generalize l.B.cols = c1 at *
 cases h1 : decide (r0 = 0 ∧ c0 = 0)
 ·have h1' := Lib.hid h1
  clear h1
  go_enter Try.func149, Try.ntmps149
  go_wp2_with fail
  refine (empty_any _ _ _ _ ⟨a, n, k, rfl⟩).mono ?_
  rw [h1'.out]
  rintro e w1 ⟨rfl, hb1⟩
  go_wp2
  go_ret
  exact ⟨by simp, (Below.x1 hb1)⟩
 ·cases h2 : decide (r1 = 0 ∧ c1 = 0)
  all_goals
   have h1' := Lib.hid h1
   have h2' := Lib.hid h2
   clear h1 h2
   go_enter Try.func149, Try.ntmps149
   go_wp2_with fail
   refine (empty_any _ _ _ _ ⟨a, n, k, rfl⟩).mono ?_
   rw [h1'.out]
   rintro e w1 ⟨rfl, hb1⟩
   have B2 := (Box.new' _ (w.heap.size + 1) [.int .i64 kd, .int .i64 r0, .int .i64 c0, .slice a n k, .int .i64 r1, .int .i64 c1, .slice a' n' k'] 69 (by simp)).keep hb1
   have B2c := B2.cell
   have B2f := B2.thawed
   have B2z := B2.lt
   have B2k := lt_add B2z
   go_wp2_with fail
   refine (empty_any _ _ _ _ ⟨a', n', k', rfl⟩).mono ?_
   rw [h2'.out]
   rintro e w2 ⟨rfl, hb2⟩
   go_wp2
   go_ret
   exact ⟨by simp, (Below.x2 hb2 hb1)⟩
theorem fits_3 (hk : l.kind = 3) : Calls Try.prog 155 #[.agg #[], .agg #[.int .i64 l.kind, .int .i64 l.W.rows, .int .i64 l.W.cols, sw, .int .i64 l.B.rows, .int .i64 l.B.cols, sb]] w fun e w' => e = .returned (.bool (decide l.fits)) ∧ Below w.heap.size w w' := by
 have hd : decide l.fits = ((l.W.rows == 1) && (l.W.cols == 1) && decide (l.B.rows = 0 ∧ l.B.cols = 0)) := by
  rw [Bool.eq_iff_iff]
  simp only [decide_eq_true_eq, Bool.and_eq_true, beq_iff_eq]
  unfold Lay.fits Mat.empty
  rw [hk]
  omega
 rw [hd]
 clear hd
 obtain ⟨a, n, k, rfl⟩ := hsw
 obtain ⟨a', n', k', rfl⟩ := hsb
 generalize l.kind = kd at *
 clear hk
 generalize l.W.rows = r0 at *
 generalize l.W.cols = c0 at *
 generalize l.B.rows = r1 at *
 generalize l.B.cols = c1 at *
 cases h1 : (r0 == 1)
 ·go_enter Try.func155, Try.ntmps155
  go_wp2
  go_ret
  exact ⟨by simp, Below.x0⟩
 ·cases h2 : (c0 == 1)
  ·go_enter Try.func155, Try.ntmps155
   go_wp2
   go_ret
   exact ⟨by simp, Below.x0⟩
  ·cases h3 : decide (r1 = 0 ∧ c1 = 0)
   all_goals
    have h3' := Lib.hid h3
    clear h3
    go_enter Try.func155, Try.ntmps155
    go_wp2_with fail
    refine (empty_any _ _ _ _ ⟨a', n', k', rfl⟩).mono ?_
    rw [h3'.out]
    rintro e w1 ⟨rfl, hb1⟩
    go_wp2
    go_ret
    exact ⟨by simp, (Below.x1 hb1)⟩
theorem fits_4 (hk : l.kind = 4) : Calls Try.prog 159 #[.agg #[], .agg #[.int .i64 l.kind, .int .i64 l.W.rows, .int .i64 l.W.cols, sw, .int .i64 l.B.rows, .int .i64 l.B.cols, sb]] w fun e w' => e = .returned (.bool (decide l.fits)) ∧ Below w.heap.size w w' := by
 have hd : decide l.fits = (decide (l.W.rows = 0 ∧ l.W.cols = 0) && (l.B.rows == 1) && decide (0 < l.B.cols)) := by
  rw [Bool.eq_iff_iff]
  simp only [decide_eq_true_eq, Bool.and_eq_true, beq_iff_eq]
  unfold Lay.fits Mat.empty
  rw [hk]
  omega
 rw [hd]
 clear hd
 obtain ⟨a, n, k, rfl⟩ := hsw
 obtain ⟨a', n', k', rfl⟩ := hsb
 generalize l.kind = kd at *
 clear hk
 generalize l.W.rows = r0 at *
 generalize l.W.cols = c0 at *
 generalize l.B.rows = r1 at *
 generalize l.B.cols = c1 at *
 cases h1 : decide (r0 = 0 ∧ c0 = 0)
 ·have h1' := Lib.hid h1
  clear h1
  go_enter Try.func159, Try.ntmps159
  go_wp2_with fail
  refine (empty_any _ _ _ _ ⟨a, n, k, rfl⟩).mono ?_
  rw [h1'.out]
  rintro e w1 ⟨rfl, hb1⟩
  go_wp2
  go_ret
  exact ⟨by simp, (Below.x1 hb1)⟩
 ·cases h2 : (r1 == 1)
  ·have h1' := Lib.hid h1
   clear h1
   go_enter Try.func159, Try.ntmps159
   go_wp2_with fail
   refine (empty_any _ _ _ _ ⟨a, n, k, rfl⟩).mono ?_
   rw [h1'.out]
   rintro e w1 ⟨rfl, hb1⟩
   have B2 := (Box.new' _ (w.heap.size + 1) [.int .i64 kd, .int .i64 r0, .int .i64 c0, .slice a n k, .int .i64 r1, .int .i64 c1, .slice a' n' k'] 69 (by simp)).keep hb1
   have B2c := B2.cell
   have B2f := B2.thawed
   have B2z := B2.lt
   have B2k := lt_add B2z
   go_wp2
   go_ret
   exact ⟨by simp, (Below.x1 hb1)⟩
  ·cases h3 : decide (0 < c1)
   all_goals
    have h1' := Lib.hid h1
    clear h1
    go_enter Try.func159, Try.ntmps159
    go_wp2_with fail
    refine (empty_any _ _ _ _ ⟨a, n, k, rfl⟩).mono ?_
    rw [h1'.out]
    rintro e w1 ⟨rfl, hb1⟩
    have B2 := (Box.new' _ (w.heap.size + 1) [.int .i64 kd, .int .i64 r0, .int .i64 c0, .slice a n k, .int .i64 r1, .int .i64 c1, .slice a' n' k'] 69 (by simp)).keep hb1
    have B2c := B2.cell
    have B2f := B2.thawed
    have B2z := B2.lt
    have B2k := lt_add B2z
    go_wp2
    go_ret
    exact ⟨by simp, (Below.x1 hb1)⟩
end
end Go.Proofs.Ytchngeagnlngaaa
end
