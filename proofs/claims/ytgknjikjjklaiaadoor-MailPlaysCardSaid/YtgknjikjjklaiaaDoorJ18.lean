/- Texts joined: OpenMS. -/
import Derived.Test.YtgknjikjjklaiaaDoorJ16
import Derived.Test.YtgknjikjjklaiaaDoorJ17
section
set_option linter.unusedVariables false
set_option linter.unusedSimpArgs false
set_option linter.unusedSectionVars false
set_option maxRecDepth 100000
namespace Gal
open Go Go.RowKit Go.ChangeShapes Go.WideShapes Go.Deep
theorem OpensS.two {P : Program} {α β : Type} {f : Form α} {g : Form β} {A : α → Prop} {B : β → Prop} {T : TypeId} {f0 f1 : Field} (ht : P.underlying T = some (.struct #[f0, f1])) (hf : OpensS P f A f0.type) (hg : OpensS P g B f1.type)
  (h0 : f0.offset = 0) (h1 : f1.offset = f.size) (hc : P.cellsOf T = f.size + g.size) : OpensS P (f.and g) (fun x => A x.1 ∧ B x.2) T := ⟨hc, fun H enc w base spare held fuel cs y hy hw => by
 obtain ⟨y0, y1, n, rfl, hl, k0, k1⟩ := trod_struct2 ht hy
 simp only [DataW.weights, ht, List.map_cons, List.map_nil, DataW.weightsEach] at hw
 obtain ⟨x0, r0, a0⟩ := hf.2 _ _ _ _ _ _ _ _ _ k0 hw.left
 obtain ⟨x1, r1, a1⟩ := hg.2 _ _ _ _ _ _ _ _ _ k1 hw.right.left
 refine ⟨(x0, x1), ⟨_, _, ?_, r0, r1⟩, a0, a1⟩
 rw [h0, h1, hf.1, hg.1, List.drop_zero, List.take_of_length_le (l := cs.drop f.size) (by rw [List.length_drop, hl, hc]; omega), List.take_append_drop]⟩
structure MOp where
 kind : Int
 m : MsgD
def Form.mop : Form MOp := (Form.int.and Form.msg).as fun x => ⟨x.1, x.2⟩
theorem mop_reads {w : World} {F : Nat → Prop} {cs : List Value} {x : MOp} (h : Form.mop.reads w F cs x) : ∃ a n k b o, cs = [.int .i64 x.kind, .int .i64 x.m.kind, .int .i64 x.m.micro, .int .i64 x.m.body.rows, .int .i64 x.m.body.cols, .slice a n k] ∧ (0 < n → F b) ∧ IntsAt w a n k b o x.m.body.cells := by
 obtain ⟨⟨y, z⟩, ⟨c, d, rfl, h1, h2⟩, rfl⟩ := h
 obtain ⟨a, n, k, b, o, rfl, hF, hi⟩ := msg_reads h2
 simp only at h1
 rw [h1]
 exact ⟨a, n, k, b, o, rfl, hF, hi⟩
theorem reads_msg {w : World} {F : Nat → Prop} {m : MsgD} {a : Option Addr} {n k b o : Nat} (hF : 0 < n → F b) (hi : IntsAt w a n k b o m.body.cells) : Form.msg.reads w F [.int .i64 m.kind, .int .i64 m.micro, .int .i64 m.body.rows, .int .i64 m.body.cols, .slice a n k] m :=
 ⟨(m.kind, m.micro, m.body), ⟨_, _, rfl, rfl, _, _, rfl, rfl, a, n, k, b, o, rfl, hF, hi⟩, rfl⟩
end Gal
namespace Go.Proofs.YtgknjikjjklaiaaDoor
open Go.RowKit Gal Go.ChangeShapes Go.WideShapes
theorem opens_mat_in : OpensS Tryd.prog Form.mat (fun m => m.cells.length * 8 ≤ reachBytes) 24 := ⟨cells_mat, fun H enc w base spare held fuel cs y h hs => by
 have hI : OpensS Tryd.prog (Form.int.and (Form.int.and Form.int.slice)) (fun x => True ∧ True ∧ (x.2.2.length * 8 ≤ reachBytes ∧ ∀ (i : Nat) y, x.2.2[i]? = some y → True)) 24 :=
  OpensS.three Tryd.underlying24 (Opens.sized opens_int) (Opens.sized opens_int) (OpensS.slice (Opens.sized opens_int) Tryd.underlying22 (by kernel_rfl) (by kernel_rfl) (by decide)) (by kernel_rfl) (by kernel_rfl) (by kernel_rfl) cells_mat
 obtain ⟨⟨r, c, xs⟩, ⟨c0, c1, rfl, rfl, c2, c3, rfl, rfl, a, n, cap, b, off, rfl, hr⟩, _, _, hb, _⟩ := hI.2 _ _ _ _ _ _ _ _ _ h hs
 exact ⟨⟨r, c, xs⟩, ⟨a, n, cap, b, off, rfl, fun _ => trivial, hr.ints⟩, hb⟩⟩
theorem opens_msg_in : OpensS Tryd.prog Form.msg (fun m => m.body.cells.length * 8 ≤ reachBytes) 26 :=
 ((OpensS.three Tryd.underlying26 (Opens.sized opens_int) (Opens.sized opens_int) opens_mat_in (by kernel_rfl) (by kernel_rfl) (by kernel_rfl) (by kernel_rfl)).as _).wide fun m ⟨x, ⟨_, _, h3⟩, e⟩ => by subst e; exact h3
theorem opens_mop_in : OpensS Tryd.prog Form.mop (fun x => x.m.body.cells.length * 8 ≤ reachBytes) 44 :=
 ((OpensS.two Tryd.underlying44 (Opens.sized opens_int) opens_msg_in (by kernel_rfl) (by kernel_rfl) (by kernel_rfl)).as _).wide fun m ⟨x, ⟨_, h3⟩, e⟩ => by subst e; exact h3
def MopsIn (w : World) (v : Value) (l : List MOp) : Prop := (∃ a n k b o, v = .slice a n k ∧ RowAt Form.mop w anyB a n k b o l) ∧ l.length * 64 ≤ reachBytes ∧ ∀ (i : Nat) x, l[i]? = some x → x.m.body.cells.length * 8 ≤ reachBytes
theorem open_lMailOp_sized {H : Type} {enc : TypeId × Value → H} {w : World} {base b0 : Nat} {r : Reach} {spare : Nat → Bool} {held : Bool} {v : Value} {d : DataW H} {p : List MemPlace}
  (hv : Value.okWide Tryd.prog w r b0 38 v) (h : DataW.Trod enc Tryd.prog w base spare held 38 v d p) (hs : Within (d.weights Tryd.prog 38)) : ∃ l : List MOp, MopsIn w v l :=
 OpensS.top_slice opens_mop_in Tryd.underlying38 (by kernel_rfl) (by kernel_rfl) (by decide) hv h hs
end Go.Proofs.YtgknjikjjklaiaaDoor
end
