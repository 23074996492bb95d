/- Texts joined: FormsG, PBack, PJoins, PGath, PStay. -/
import Derived.Test.YtchngeagnlngaaaJ04
import Derived.Test.YtchngeagnlngaaaJ06
import Derived.Test.YtchngeagnlngaaaJ07
import Derived.Test.YtchngeagnlngaaaJ02
section
set_option linter.unusedVariables false
set_option linter.unusedSimpArgs false
set_option linter.unusedSectionVars false
set_option maxRecDepth 100000
namespace Gal
open Go Go.RowKit Go.ChangeShapes Go.WideShapes Go.Deep
def Form.lay : Form Lay := (Form.int.and (Form.mat.and Form.mat)).as fun x => ⟨x.1, x.2.1, x.2.2⟩
def Form.grd : Form Grd := (Form.mat.and Form.mat).as fun x => ⟨x.1, x.2⟩
end Gal
namespace Go.Proofs.Ytchngeagnlngaaa
open Go.RowKit Gal Go.ChangeShapes Go.WideShapes
theorem lay_reads {w : World} {F : Nat → Prop} {cs : List Value} {l : Lay} (h : Form.lay.reads w F cs l) :
  ∃ a n cap b o a' n' cap' b' o', cs = [.int .i64 l.kind, .int .i64 l.W.rows, .int .i64 l.W.cols, .slice a n cap, .int .i64 l.B.rows, .int .i64 l.B.cols, .slice a' n' cap'] ∧ (0 < n → F b) ∧ IntsAt w a n cap b o l.W.cells ∧ (0 < n' → F b') ∧ IntsAt w a' n' cap' b' o' l.B.cells := by
 obtain ⟨⟨kd, W, B⟩, ⟨c, d, rfl, rfl, c1, d1, rfl, ⟨a, n, cap, b, o, rfl, hF, x0⟩, ⟨a', n', cap', b', o', rfl, hF', x1⟩⟩, rfl⟩ := h
 exact ⟨a, n, cap, b, o, a', n', cap', b', o', rfl, hF, x0, hF', x1⟩
theorem reads_lay {w : World} {F : Nat → Prop} {l : Lay} {a a' : Option Addr} {n n' cap cap' b b' o o' : Nat} (hF : 0 < n → F b) (x0 : IntsAt w a n cap b o l.W.cells) (hF' : 0 < n' → F b') (x1 : IntsAt w a' n' cap' b' o' l.B.cells) :
  Form.lay.reads w F [.int .i64 l.kind, .int .i64 l.W.rows, .int .i64 l.W.cols, .slice a n cap, .int .i64 l.B.rows, .int .i64 l.B.cols, .slice a' n' cap'] l :=
 ⟨(l.kind, l.W, l.B), ⟨_, _, rfl, rfl, _, _, rfl, ⟨a, n, cap, b, o, rfl, hF, x0⟩, ⟨a', n', cap', b', o', rfl, hF', x1⟩⟩, rfl⟩
theorem grd_reads {w : World} {F : Nat → Prop} {cs : List Value} {d : Grd} (h : Form.grd.reads w F cs d) :
  ∃ a n cap b o a' n' cap' b' o', cs = [.int .i64 d.W.rows, .int .i64 d.W.cols, .slice a n cap, .int .i64 d.B.rows, .int .i64 d.B.cols, .slice a' n' cap'] ∧ (0 < n → F b) ∧ IntsAt w a n cap b o d.W.cells ∧ (0 < n' → F b') ∧ IntsAt w a' n' cap' b' o' d.B.cells := by
 obtain ⟨⟨W, B⟩, ⟨c1, d1, rfl, ⟨a, n, cap, b, o, rfl, hF, x0⟩, ⟨a', n', cap', b', o', rfl, hF', x1⟩⟩, rfl⟩ := h
 exact ⟨a, n, cap, b, o, a', n', cap', b', o', rfl, hF, x0, hF', x1⟩
theorem reads_grd {w : World} {F : Nat → Prop} {d : Grd} {a a' : Option Addr} {n n' cap cap' b b' o o' : Nat} (hF : 0 < n → F b) (x0 : IntsAt w a n cap b o d.W.cells) (hF' : 0 < n' → F b') (x1 : IntsAt w a' n' cap' b' o' d.B.cells) :
  Form.grd.reads w F [.int .i64 d.W.rows, .int .i64 d.W.cols, .slice a n cap, .int .i64 d.B.rows, .int .i64 d.B.cols, .slice a' n' cap'] d :=
 ⟨(d.W, d.B), ⟨_, _, rfl, ⟨a, n, cap, b, o, rfl, hF, x0⟩, ⟨a', n', cap', b', o', rfl, hF', x1⟩⟩, rfl⟩
theorem lay_cells {w : World} {F : Nat → Prop} {a : Option Addr} {n k b o : Nat} {ls : List Lay} {i : Nat} (h : RowAt Form.lay w F a n k b o ls) (hi : i < n) :
  ∃ a1 n1 k1 b1 o1 a2 n2 k2 b2 o2, w.cell? ⟨b, o + i * 7, none⟩ = some (.int .i64 (lx ls i).kind) ∧ w.cell? ⟨b, o + i * 7 + 1, none⟩ = some (.int .i64 (lx ls i).W.rows) ∧ w.cell? ⟨b, o + i * 7 + 2, none⟩ = some (.int .i64 (lx ls i).W.cols) ∧ w.cell? ⟨b, o + i * 7 + 3, none⟩ = some (.slice a1 n1 k1) ∧
   w.cell? ⟨b, o + i * 7 + 4, none⟩ = some (.int .i64 (lx ls i).B.rows) ∧ w.cell? ⟨b, o + i * 7 + 5, none⟩ = some (.int .i64 (lx ls i).B.cols) ∧ w.cell? ⟨b, o + i * 7 + 6, none⟩ = some (.slice a2 n2 k2) ∧ IntsAt w a1 n1 k1 b1 o1 (lx ls i).W.cells ∧ IntsAt w a2 n2 k2 b2 o2 (lx ls i).B.cells := by
 obtain ⟨cs, hr, hc⟩ := h.cell i _ (lx_get (by rw [h.len]; exact hi))
 obtain ⟨a1, n1, k1, b1, o1, a2, n2, k2, b2, o2, rfl, _, x1, _, x2⟩ := lay_reads hr
 exact ⟨a1, n1, k1, b1, o1, a2, n2, k2, b2, o2, hc 0 (by decide), hc 1 (by decide), hc 2 (by decide), hc 3 (by decide), hc 4 (by decide), hc 5 (by decide), hc 6 (by decide), x1, x2⟩
theorem grd_cells {w : World} {F : Nat → Prop} {a : Option Addr} {n k b o : Nat} {ds : List Grd} {i : Nat} {d : Grd} (h : RowAt Form.grd w F a n k b o ds) (hd : ds[i]? = some d) :
  ∃ a1 n1 k1 b1 o1 a2 n2 k2 b2 o2, w.cell? ⟨b, o + i * 6, none⟩ = some (.int .i64 d.W.rows) ∧ w.cell? ⟨b, o + i * 6 + 1, none⟩ = some (.int .i64 d.W.cols) ∧ w.cell? ⟨b, o + i * 6 + 2, none⟩ = some (.slice a1 n1 k1) ∧
   w.cell? ⟨b, o + i * 6 + 3, none⟩ = some (.int .i64 d.B.rows) ∧ w.cell? ⟨b, o + i * 6 + 4, none⟩ = some (.int .i64 d.B.cols) ∧ w.cell? ⟨b, o + i * 6 + 5, none⟩ = some (.slice a2 n2 k2) ∧ IntsAt w a1 n1 k1 b1 o1 d.W.cells ∧ IntsAt w a2 n2 k2 b2 o2 d.B.cells := by
 obtain ⟨cs, hr, hc⟩ := h.cell i d hd
 obtain ⟨a1, n1, k1, b1, o1, a2, n2, k2, b2, o2, rfl, _, x1, _, x2⟩ := grd_reads hr
 exact ⟨a1, n1, k1, b1, o1, a2, n2, k2, b2, o2, hc 0 (by decide), hc 1 (by decide), hc 2 (by decide), hc 3 (by decide), hc 4 (by decide), hc 5 (by decide), x1, x2⟩
theorem opens_lay : Opens Try.prog Form.lay 69 :=
 (Opens.three (f := Form.int) (g := Form.mat) (k := Form.mat) Try.underlying69 opens_int opens_mat opens_mat (by kernel_rfl) (by kernel_rfl) (by kernel_rfl) (by kernel_rfl)).as _
theorem opens_grd : Opens Try.prog Form.grd 93 :=
 (Opens.two (f := Form.mat) (g := Form.mat) Try.underlying93 opens_mat opens_mat (by kernel_rfl) (by kernel_rfl) (by kernel_rfl)).as _
end Go.Proofs.Ytchngeagnlngaaa
end
section
set_option linter.unusedVariables false
set_option linter.unusedSimpArgs false
namespace Gal
section
variable (ls : List Lay) (ss : List Mat) (g : Mat) (n : Nat)
def bM : Nat → Mat
 | 0 => g
 | k + 1 => (lx ls (n - 1 - k)).back (mx ss (n - 1 - k)) (bM k)
def bD (k : Nat) : Grd := (lx ls (n - 1 - k)).grad (mx ss (n - 1 - k)) (bM ls ss g n k)
def bF : Nat → Int
 | 0 => 0
 | k + 1 => if bF k = 0 then (lx ls (n - 1 - k)).backFault (mx ss (n - 1 - k)) (bM ls ss g n k) else bF k
def bDs : List Grd := (List.range n).map fun j => bD ls ss g n (n - 1 - j)
def netBackFault : Int := if 12 < ls.length then 3 else if ss.length ≠ ls.length + 1 then 2 else if ls.length = 0 then g.fault else bF ls ss g ls.length ls.length
end
section
variable {ls : List Lay} {ss : List Mat} {g : Mat} {n k m : Nat}
theorem bF_next (h : bF ls ss g n k = 0) : bF ls ss g n (k + 1) = (lx ls (n - 1 - k)).backFault (mx ss (n - 1 - k)) (bM ls ss g n k) := if_pos h
theorem bF_stays (h : k ≤ m) (hk : bF ls ss g n k ≠ 0) : bF ls ss g n m = bF ls ss g n k := by
  induction m with
  | zero => obtain rfl : k = 0 := by omega
            rfl
  | succ m ih =>
    rcases Nat.lt_or_ge k (m + 1) with h1 | h1
    · have e := ih (by omega)
      show (if bF ls ss g n m = 0 then _ else _) = _
      rw [if_neg (by rw [e]; exact hk), e]
    · obtain rfl : k = m + 1 := by omega
      rfl
theorem bF_stop (hk : k < n) (hz : bF ls ss g n k = 0) (hf : (lx ls (n - 1 - k)).backFault (mx ss (n - 1 - k)) (bM ls ss g n k) ≠ 0) : bF ls ss g n n = (lx ls (n - 1 - k)).backFault (mx ss (n - 1 - k)) (bM ls ss g n k) := by
 rw [bF_stays (k := k + 1) (by omega) (by rw [bF_next hz]; exact hf), bF_next hz]
theorem bDs_length : (bDs ls ss g n).length = n := by simp [bDs]
theorem bDs_gx {j : Nat} (h : j < n) : gx (bDs ls ss g n) j = bD ls ss g n (n - 1 - j) := by
 unfold gx bDs
 rw [List.getElem?_map, List.getElem?_eq_getElem (by simpa using h)]
 simp
end
section
variable (ls : List Lay) (ss : List Mat) (g : Mat)
def gone (l : List Nat) : Mat × (Nat → Option Grd) :=
 l.foldl (fun s i => ((lx ls i).back (mx ss i) s.1, fun j => if j = i then some ((lx ls i).grad (mx ss i) s.1) else s.2 j)) (g, fun _ => none)
theorem gone_snoc (l : List Nat) (i : Nat) : gone ls ss g (l ++ [i]) = ((lx ls i).back (mx ss i) (gone ls ss g l).1, fun j => if j = i then some ((lx ls i).grad (mx ss i) (gone ls ss g l).1) else (gone ls ss g l).2 j) := by
 unfold gone
 rw [List.foldl_append]
 rfl
inductive OkTo : List Nat → Prop
  | nil : OkTo []
  | snoc {l : List Nat} {x : Nat} (h : OkTo l) (hx : (lx ls x).backFault (mx ss x) (gone ls ss g l).1 = 0) : OkTo (l ++ [x])
end
section
variable {ls : List Lay} {ss : List Mat} {g : Mat}
theorem OkTo.inv {m : List Nat} (h : OkTo ls ss g m) : ∀ l x, m = l ++ [x] → OkTo ls ss g l ∧ (lx ls x).backFault (mx ss x) (gone ls ss g l).1 = 0 := by
 intro l x e
 cases h with
 | nil => simp at e
 | snoc h hx =>
  obtain ⟨e1, e2⟩ := List.append_inj' e rfl
  simp at e2
  subst e1 e2
  exact ⟨h, hx⟩
def descs (n k : Nat) : List Nat := (List.range k).map fun j => n - 1 - j
theorem descs_length (n k : Nat) : (descs n k).length = k := by simp [descs]
theorem descs_succ (n k : Nat) : descs n (k + 1) = descs n k ++ [n - 1 - k] := by simp [descs, List.range_succ]
theorem gone_descs (n : Nat) : ∀ t, t ≤ n → (gone ls ss g (descs n t)).1 = bM ls ss g n t ∧ ∀ j, n - t ≤ j → j < n → (gone ls ss g (descs n t)).2 j = some (bD ls ss g n (n - 1 - j))
 | 0, _ => ⟨rfl, fun j h1 h2 => by omega⟩
 | t + 1, ht => by
  obtain ⟨h1, h2⟩ := gone_descs n t (by omega)
  rw [descs_succ, gone_snoc, h1]
  refine ⟨rfl, fun j h3 h4 => ?_⟩
  dsimp only
  by_cases hj : j = n - 1 - t
  ·rw [if_pos hj]
   have e : n - 1 - j = t := by omega
   rw [e]
   rfl
  ·rw [if_neg hj]
   exact h2 j (by omega) h4
theorem bF_descs (n : Nat) : ∀ t, t ≤ n → OkTo ls ss g (descs n t) → bF ls ss g n t = 0
 | 0, _, _ => rfl
 | t + 1, ht, h => by
  rw [descs_succ] at h
  obtain ⟨h1, h2⟩ := h.inv _ _ rfl
  have h3 := bF_descs n t (by omega) h1
  rw [bF_next h3]
  rw [(gone_descs n t (by omega)).1] at h2
  exact h2
end
end Gal
end
section
set_option linter.unusedVariables false
set_option linter.unusedSimpArgs false
namespace Gal
section
variable {ps qs : List Lay} {x g : Mat} {n m : Nat}
theorem goTo_less {k j : Nat} (hk : k ≤ j) (h : goTo ps x j = 0) : goTo ps x k = 0 := Classical.byContradiction fun hne => hne ((goTo_stop hk hne).symm.trans h)
def midOf (ps : List Lay) (x : Mat) : Mat := netTo ps x ps.length
theorem outs_mx {k j : Nat} (h : j ≤ k) : mx (netOuts ps x k) j = netTo ps x j := by
 unfold mx netOuts
 rw [List.getElem?_map, List.getElem?_range (by omega)]
 rfl
abbrev sawOne (ps : List Lay) (x : Mat) : List Mat := netOuts ps x ps.length
theorem netBackFault_zero {ls : List Lay} {ss : List Mat} (h1 : ls.length ≤ 12) (h2 : ss.length = ls.length + 1) (hg : g.fault = 0) (h : bF ls ss g ls.length ls.length = 0) : netBackFault ls ss g = 0 := by
 unfold netBackFault
 rw [if_neg (by omega), if_neg (by omega)]
 by_cases h3 : ls.length = 0
 ·rw [if_pos h3]; exact hg
 ·rw [if_neg h3]; exact h
end
end Gal
end
section
set_option linter.unusedVariables false
set_option linter.unusedSimpArgs false
namespace Gal
def pairFault (a b : Grd) : Int := if lossFault a.W b.W = 0 then lossFault a.B b.B else lossFault a.W b.W
theorem pairFault_w {a b : Grd} (h : lossFault a.W b.W ≠ 0) : pairFault a b = lossFault a.W b.W := if_neg h
theorem pairFault_b {a b : Grd} (h : lossFault a.W b.W = 0) : pairFault a b = lossFault a.B b.B := if_pos h
def gatherFaultTo (az0 bs : List Grd) : Nat → Int
 | 0 => 0
 | k + 1 => if gatherFaultTo az0 bs k = 0 then pairFault (gx az0 k) (gx bs k) else gatherFaultTo az0 bs k
def gatherFault (az0 bs : List Grd) : Int := if az0.length = bs.length then gatherFaultTo az0 bs az0.length else 2
theorem gather_next {az0 bs : List Grd} {k : Nat} (h : gatherFaultTo az0 bs k = 0) : gatherFaultTo az0 bs (k + 1) = pairFault (gx az0 k) (gx bs k) := if_pos h
theorem gather_stays {az0 bs : List Grd} {k m : Nat} (h : k ≤ m) (hk : gatherFaultTo az0 bs k ≠ 0) : gatherFaultTo az0 bs m = gatherFaultTo az0 bs k := by
  induction m with
  | zero => obtain rfl : k = 0 := by omega
            rfl
  | succ m ih =>
    rcases Nat.lt_or_ge k (m + 1) with h1 | h1
    · have e := ih (by omega)
      show (if gatherFaultTo az0 bs m = 0 then _ else _) = _
      rw [if_neg (by rw [e]; exact hk), e]
    · obtain rfl : k = m + 1 := by omega
      rfl
theorem gather_stop {az0 bs : List Grd} {t n : Nat} (ht : t < n) (hz : gatherFaultTo az0 bs t = 0) (hp : pairFault (gx az0 t) (gx bs t) ≠ 0) : gatherFaultTo az0 bs n = pairFault (gx az0 t) (gx bs t) := by
 rw [gather_stays (k := t + 1) (by omega) (by rw [gather_next hz]; exact hp), gather_next hz]
def pairSum (a b : Grd) : Grd := ⟨matAdd a.W b.W, matAdd a.B b.B⟩
def gatherTo (az0 bs : List Grd) (k : Nat) : List Grd := (List.range k).map fun i => pairSum (gx az0 i) (gx bs i)
theorem gatherTo_length (az0 bs : List Grd) (k : Nat) : (gatherTo az0 bs k).length = k := by simp [gatherTo]
theorem gatherTo_succ (az0 bs : List Grd) (k : Nat) : gatherTo az0 bs (k + 1) = gatherTo az0 bs k ++ [pairSum (gx az0 k) (gx bs k)] := by simp [gatherTo, List.range_succ]
end Gal
end
section
set_option linter.unusedVariables false
set_option linter.unusedSimpArgs false
namespace Gal
def zeroMat (m : Mat) : Mat := ⟨m.rows, m.cols, zeros m.cells.length⟩
def zeroGrd (l : Lay) : Grd := ⟨zeroMat l.W, zeroMat l.B⟩
def zeroNet (ls : List Lay) : List Grd := ls.map zeroGrd
theorem zeroNet_length (ls : List Lay) : (zeroNet ls).length = ls.length := by simp [zeroNet]
theorem zeroNet_gx (ls : List Lay) (k : Nat) : gx (zeroNet ls) k = zeroGrd (lx ls k) := by
 unfold gx lx zeroNet
 rw [List.getElem?_map]
 cases ls[k]? with
 | some l => rfl
 | none => rfl
theorem zeroMat_fault {m : Mat} (h : m.fault = 0) : (zeroMat m).fault = 0 := by
 obtain ⟨R, C, hr, hc, hR, hC, hl, he⟩ := matFault_ok h
 show matFault m.rows m.cols (zeros m.cells.length) = 0
 rw [hr, hc]
 exact matFault_zero hR hC (by rw [zeros_length]; exact hl) (zeros_inEnds _)
theorem fits_mk {l : Lay} {v d : Grd} (h0 : l.fault = 0) (h1 : v.W.fault = 0) (h2 : v.B.fault = 0) (h3 : d.W.fault = 0) (h4 : d.B.fault = 0)
  (h5 : likeShape v.W l.W) (h6 : likeShape v.B l.B) (h7 : likeShape d.W l.W) (h8 : likeShape d.B l.B) : fitsFault l v d = 0 := by
 unfold fitsFault
 rw [if_neg (by simp [h0]), if_neg (by simp [h1]), if_neg (by simp [h2]), if_neg (by simp [h3]), if_neg (by simp [h4]), if_pos ⟨h5, h6, h7, h8⟩]
theorem stepFaultTo_none {ls : List Lay} {vs ds : List Grd} : ∀ {n : Nat}, (∀ k, k < n → fitsFault (lx ls k) (gx vs k) (gx ds k) = 0) → stepFaultTo ls vs ds n = 0
 | 0, _ => rfl
 | n + 1, h => by
  rw [stepFaultTo_succ (stepFaultTo_none fun k hk => h k (by omega))]
  exact h n (Nat.lt_succ_self n)
theorem stepFault_none {ls : List Lay} {vs ds : List Grd} {ln kp : Int} (h1 : 0 ≤ ln ∧ ln ≤ 256 ∧ 0 ≤ kp ∧ kp ≤ 256) (h2 : ls.length ≤ 12) (h3 : vs.length = ls.length) (h4 : ds.length = ls.length)
  (h : ∀ k, k < ls.length → fitsFault (lx ls k) (gx vs k) (gx ds k) = 0) : stepFault ls vs ds ln kp = 0 := by
 unfold stepFault
 rw [if_neg (by omega), if_neg (by omega), if_neg (by omega)]
 exact stepFaultTo_none h
theorem range_congr {α : Type} {f g : Nat → α} {n : Nat} (h : ∀ k, k < n → f k = g k) : (List.range n).map f = (List.range n).map g :=
 List.map_congr_left fun k hk => h k (List.mem_range.1 hk)
section
variable {ls : List Lay} {vs ds : List Grd} {ln kp : Int} (h : stepFault ls vs ds ln kp = 0)
include h
end
end Gal
end
