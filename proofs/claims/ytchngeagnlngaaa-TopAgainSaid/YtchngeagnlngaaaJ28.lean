/- Texts joined: Step5. -/
import Derived.Test.YtchngeagnlngaaaJ27
import Derived.Test.YtchngeagnlngaaaJ04
import Derived.Test.YtchngeagnlngaaaJ18
import Derived.Test.YtchngeagnlngaaaJ08
section
set_option linter.unusedVariables false
set_option linter.unusedSimpArgs false
set_option linter.unusedSectionVars false
namespace Go.Proofs.Ytchngeagnlngaaa
open Go.RowKit Gal Go.ChangeShapes Go.WideShapes
set_option maxRecDepth 100000
section
variable (ls : List Lay) (vs ds : List Grd) (ln kp : Int) (F G H : Nat → Prop) (a0 a1 a2 : Option Addr) (n n1 n2 k0 k1 k2 b0 b1 b2 o0 o1 o2 : Nat) (w : World) (h0 : RowAt Form.lay w F a0 n k0 b0 o0 ls) (h1 : RowAt Form.grd w G a1 n1 k1 b1 o1 vs) (h2 : RowAt Form.grd w H a2 n2 k2 b2 o2 ds)
include h0 h1 h2
theorem stepDo_any :
  Calls Try.prog 11 #[.slice a0 n k0, .slice a1 n1 k1, .slice a2 n2 k2, .agg #[.int .i64 ln, .int .i64 kp]] w fun e w' => ∃ v d, e = .returned (.tuple #[v, d, errV (stepFault ls vs ds ln kp)]) ∧ Below w.heap.size w w' ∧
   (stepFault ls vs ds ln kp = 0 → ∃ a' b' a'' b'', v = .slice a' n n ∧ d = .slice a'' n n ∧ RowAt Form.lay w' (newB w.heap.size) a' n n b' 0 (stepLays ls vs ds ln kp n) ∧ RowAt Form.grd w' (newB w.heap.size) a'' n n b'' 0 (stepGrds ls vs ds kp n)) ∧
   (stepFault ls vs ds ln kp ≠ 0 → v = .slice none 0 0 ∧ d = .slice none 0 0) := by
 by_cases hb : ln < 0 ∨ 256 < ln ∨ kp < 0 ∨ 256 < kp
 ·exact stepDo_range ls vs ds ln kp F G H a0 a1 a2 n n1 n2 k0 k1 k2 b0 b1 b2 o0 o1 o2 w h0 h1 h2 hb
 ·by_cases hs : 12 < n ∨ n1 ≠ n ∨ n2 ≠ n
  ·exact stepDo_sizes ls vs ds ln kp F G H a0 a1 a2 n n1 n2 k0 k1 k2 b0 b1 b2 o0 o1 o2 w h0 h1 h2 hb hs
  ·obtain rfl : n1 = n := by omega
   obtain rfl : n2 = n1 := by omega
   exact stepDo_run ls vs ds ln kp F G H a0 a1 a2 n2 k0 k1 k2 b0 b1 b2 o0 o1 o2 w h0 h1 h2 hb (by omega)
theorem stepDo_is (ms : List Lay) (gs : List Grd) (hf : stepFault ls vs ds ln kp = 0) (hm : stepLays ls vs ds ln kp ls.length = ms) (hg : stepGrds ls vs ds kp ls.length = gs) :
  Calls Try.prog 11 #[.slice a0 n k0, .slice a1 n1 k1, .slice a2 n2 k2, .agg #[.int .i64 ln, .int .i64 kp]] w fun e w' => ∃ a' b' a'' b'', e = .returned (.tuple #[.slice a' n n, .slice a'' n n, .nilIface]) ∧ Below w.heap.size w w' ∧
   RowAt Form.lay w' (newB w.heap.size) a' n n b' 0 ms ∧ RowAt Form.grd w' (newB w.heap.size) a'' n n b'' 0 gs := by
 refine (stepDo_any ls vs ds ln kp F G H a0 a1 a2 n n1 n2 k0 k1 k2 b0 b1 b2 o0 o1 o2 w h0 h1 h2).mono ?_
 rintro e w' ⟨v, d, rfl, hb, h, -⟩
 obtain ⟨a', b', a'', b'', rfl, rfl, r0, r1⟩ := h hf
 rw [h0.len] at hm hg
 rw [hm] at r0
 rw [hg] at r1
 exact ⟨a', b', a'', b'', by rw [hf, errV_nil rfl], hb, r0, r1⟩
end
structure Rts where
 ln : Int
 kp : Int
def RatesAt (w : World) (v : Value) (r : Rts) : Prop := v = .agg #[.int .i64 r.ln, .int .i64 r.kp]
theorem open_Rates {H : Type} {enc : TypeId × Value → H} {w : World} {base b0 : Nat} {r : Reach} {spare : Nat → Bool} {held : Bool} {v : Value} {d : DataW H} {p : List MemPlace}
  (hv : Value.okWide Try.prog w r b0 32 v) (h : DataW.Trod enc Try.prog w base spare held 32 v d p) : ∃ r : Rts, RatesAt w v r := by
 have hO : Opens Try.prog (Form.int.and Form.int) 32 := Opens.two Try.underlying32 opens_int opens_int (by kernel_rfl) (by kernel_rfl) (by kernel_rfl)
 obtain ⟨⟨x, y⟩, cs, rfl, c1, c2, rfl, rfl, rfl⟩ := hO.top_struct Try.underlying32 hv h
 exact ⟨⟨x, y⟩, rfl⟩
end Go.Proofs.Ytchngeagnlngaaa
end
