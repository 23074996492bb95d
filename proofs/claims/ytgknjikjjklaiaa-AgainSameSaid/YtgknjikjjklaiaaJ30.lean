/- Texts joined: Again2, OpenL, Net3. -/
import Derived.Test.YtgknjikjjklaiaaJ29
import Derived.Test.YtgknjikjjklaiaaJ06
import Derived.Test.YtgknjikjjklaiaaJ10
import Derived.IntWalk
import Derived.Test.YtgknjikjjklaiaaJ05
import Derived.Test.YtgknjikjjklaiaaJ16
import Derived.Test.YtgknjikjjklaiaaJ23
section
set_option linter.unusedVariables false
set_option linter.unusedSimpArgs false
set_option linter.unusedSectionVars false
namespace Go.Proofs.Ytgknjikjjklaiaa
open Go.RowKit Gal Go.Maps
def keyV (k : Nat) : Value := .int .i64 k
theorem keyV_inj {x y : Nat} (h : keyV x = keyV y) : x = y := by
 unfold keyV at h
 injection h with _ h
 omega
theorem int_keys : Keyed Try.prog 3 := int_keyed Try.underlying3
theorem keyV_of {k : Nat} (h : k ≤ 9223372036854775807) : keyOf Try.prog 3 (keyV k) = some (.int .i64 k) := keyOf_int_mk Try.underlying3 (by
 have e1 : IntKind.i64.min = -9223372036854775808 := rfl
 have e2 : IntKind.i64.max = 9223372036854775807 := rfl
 simp only [Lit.wf, Bool.and_eq_true, decide_eq_true_eq]
 omega)
structure ShelfAt (w : World) (sb mb : Nat) (now most : Int) (l : List (Nat × Value)) : Prop where
 box : Box w sb [.map (some mb), .int .i64 now, .int .i64 most] 60
 map : MapV Try.prog 3 keyV w mb l
variable {w : World} {sb mb : Nat} {now most : Int} {l : List (Nat × Value)}
theorem ShelfAt.ne (h : ShelfAt w sb mb now most l) : sb ≠ mb := fun e => by
 obtain ⟨es, c, hb, _⟩ := h.map
 have h1 := h.box
 unfold Box at h1
 rw [e, hb] at h1
 cases h1
theorem ShelfAt.keep {w' : World} (h : ShelfAt w sb mb now most l) (hb : Below w.heap.size w w') : ShelfAt w' sb mb now most l := ⟨h.box.keep hb, h.map.keep hb⟩
theorem ShelfAt.drewN (h : ShelfAt w sb mb now most l) (n : Nat) : ShelfAt (w.drewN n) sb mb now most l := ⟨h.box.drewN n, h.map.drewN n⟩
theorem ShelfAt.drew (h : ShelfAt w sb mb now most l) : ShelfAt w.drew sb mb now most l := ⟨h.box.drew, h.map.drew⟩
theorem ShelfAt.alloc (h : ShelfAt w sb mb now most l) (o : Obj) : ShelfAt (w.alloc o) sb mb now most l := ⟨h.box.alloc o, h.map.alloc o⟩
theorem ShelfAt.far (h : ShelfAt w sb mb now most l) {a : Addr} (h1 : sb ≠ a.block) (h2 : mb ≠ a.block) (v : Value) : ShelfAt (w.setCell a v) sb mb now most l := ⟨h.box.far h1 v, h.map.far h2 v⟩
def onShelf (sb mb : Nat) (b : Nat) : Prop := b = sb ∨ b = mb
set_option maxRecDepth 100000 in
set_option maxHeartbeats 1000000 in
theorem shelfPut_new (h : ShelfAt w sb mb now most l) (k : Nat) (R C : Int) (a : Option Addr) (n c : Nat) (hk : k ≤ 12) (hnew : ∀ p ∈ l, p.1 ≠ k) (hn : 0 ≤ now ∧ now ≤ 1000000) (hm : 0 ≤ most ∧ most ≤ 1000000) :
  Calls Try.prog 16 #[.pointer (some ⟨sb, 0, none⟩), .int .i64 k, .agg #[.int .i64 R, .int .i64 C, .slice a n c]] w fun e w' => e = .returned (.tuple #[]) ∧
   ShelfAt w' sb mb (now + 1) (max most (now + 1)) (l ++ [(k, .agg #[.int .i64 R, .int .i64 C, .slice a n c])]) ∧ Far (onShelf sb mb) w w' := by
 obtain ⟨hn0, hn1⟩ := hn
 obtain ⟨hm0, hm1⟩ := hm
 have hne := h.ne
 have hsl := h.box.lt
 have hml := h.map.lt
 have hA := (h.alloc (.cells #[.int .i64 R, .int .i64 C, .slice a n c] 25)).drew
 have P := (Box.new w [.int .i64 R, .int .i64 C, .slice a n c] 25).drew
 have p0 := P.cell 0
 have p1 := P.cell 1
 have p2 := P.cell 2
 have c0 := hA.box.cell 0
 obtain ⟨w2, hup, hm2, ho2⟩ := hA.map.update int_keys Try.underlying58 keyV_inj (keyV_of (k := k) (by omega)) hnew (.agg #[.int .i64 R, .int .i64 C, .slice a n c])
 unfold keyV at hup
 have b2 := Box.only hA.box ho2 hne
 have c1 := b2.cell 1
 have f1 := b2.thawed 1
 have b3 := (b2.set 1 (.int .i64 (now + 1))).drew
 have d1 := b3.cell 1
 have d2 := b3.cell 2
 have f2 := b3.thawed 2
 have b4 := b3.set 2 (.int .i64 (max most (now + 1)))
 have HB : Hid (Box (((w2.setCell ⟨sb, 1, none⟩ (.int .i64 (now + 1))).setCell ⟨sb, 2, none⟩ (.int .i64 (max most (now + 1)))).drew) sb [.map (some mb), .int .i64 (now + 1), .int .i64 (max most (now + 1))] 60) := Lib.hid b4
 have HM : Hid (MapV Try.prog 3 keyV (((w2.setCell ⟨sb, 1, none⟩ (.int .i64 (now + 1))).setCell ⟨sb, 2, none⟩ (.int .i64 (max most (now + 1)))).drew) mb (l ++ [(k, .agg #[.int .i64 R, .int .i64 C, .slice a n c])])) :=
  Lib.hid ((hm2.far (by dsimp only; omega) _).far (by dsimp only; omega) _).drew
 have HF : Hid (Far (onShelf sb mb) w (((w2.setCell ⟨sb, 1, none⟩ (.int .i64 (now + 1))).setCell ⟨sb, 2, none⟩ (.int .i64 (max most (now + 1)))).drew)) :=
  Lib.hid ((((((Far.refl (onShelf sb mb) w).al _).drew).grown ho2.1 (fun k hk _ => by cases hk; exact Or.inr rfl)).st (fun _ => Or.inl rfl) _).st (fun _ => Or.inl rfl) _).drew
 clear hA P hm2 ho2 b2 b3 b4 hnew
 by_cases hmx : most < now + 1
 ·have hmm : max most (now + 1) = now + 1 := by omega
  rw [hmm] at HB HM HF ⊢
  clear hmm
  go_enter Try.func16, Try.ntmps16
  go_wp2
  go_region
  all_goals
   go_wp2
   go_region
  all_goals
   go_wp2
   go_end0
   exact ⟨rfl, ⟨HB.out, HM.out⟩, HF.out⟩
 ·have hmm : max most (now + 1) = most := by omega
  rw [hmm] at HB HM HF ⊢
  clear hmm
  go_enter Try.func16, Try.ntmps16
  go_wp2
  go_region
  all_goals
   go_wp2
   go_region
  all_goals
   go_wp2
   go_end0
   exact ⟨rfl, ⟨HB.out, HM.out⟩, HF.out⟩
set_option maxRecDepth 100000 in
set_option maxHeartbeats 1000000 in
theorem shelfDrop_any (h : ShelfAt w sb mb now most l) (k : Nat) (hk : k ≤ 12) (hn : 0 ≤ now ∧ now ≤ 1000000) :
  Calls Try.prog 20 #[.pointer (some ⟨sb, 0, none⟩), .int .i64 k] w fun e w' => e = .returned (.tuple #[]) ∧
   (∃ l', ShelfAt w' sb mb (now - 1) most l' ∧ ∀ q, q ∈ l' ↔ q ∈ l ∧ q.1 ≠ k) ∧ Far (onShelf sb mb) w w' := by
 obtain ⟨hn0, hn1⟩ := hn
 have hne := h.ne
 have c0 := h.box.cell 0
 obtain ⟨w2, l', hup, hm2, hl', ho2⟩ := h.map.drop int_keys Try.underlying58 keyV_inj (keyV_of (k := k) (by omega))
 unfold keyV at hup
 have b2 := Box.only h.box ho2 hne
 have c1 := b2.cell 1
 have f1 := b2.thawed 1
 have b3 := b2.set 1 (.int .i64 (now - 1))
 have HB : Hid (Box (w2.setCell ⟨sb, 1, none⟩ (.int .i64 (now - 1))) sb [.map (some mb), .int .i64 (now - 1), .int .i64 most] 60) := Lib.hid b3
 have HM : Hid (MapV Try.prog 3 keyV (w2.setCell ⟨sb, 1, none⟩ (.int .i64 (now - 1))) mb l') := Lib.hid (hm2.far (by dsimp only; omega) _)
 have HF : Hid (Far (onShelf sb mb) w (w2.setCell ⟨sb, 1, none⟩ (.int .i64 (now - 1)))) := Lib.hid (((Far.refl (onShelf sb mb) w).grown ho2.1 (fun k hk _ => by cases hk; exact Or.inr rfl)).st (fun _ => Or.inl rfl) _)
 have HL := Lib.hid hl'
 clear hm2 ho2 b2 b3 hl'
 go_enter Try.func20, Try.ntmps20
 go_wp2
 go_end0
 exact ⟨rfl, ⟨l', ⟨HB.out, HM.out⟩, HL.out⟩, HF.out⟩
end Go.Proofs.Ytgknjikjjklaiaa
end
section
set_option linter.unusedVariables false
set_option linter.unusedSimpArgs false
namespace Go.Proofs.Ytgknjikjjklaiaa
open Go.RowKit Gal Go.ChangeShapes Go.WideShapes
set_option maxRecDepth 100000
def LaysAt (w : World) (v : Value) (ls : List Lay) : Prop := ∃ a n k b o, v = .slice a n k ∧ RowAt Form.lay w anyB a n k b o ls
theorem open_lLayer {H : Type} {enc : TypeId × Value → H} {w : World} {base b0 : Nat} {r : Reach} {spare : Nat → Bool} {held : Bool} {v : Value} {d : DataW H} {p : List MemPlace}
  (hv : Value.okWide Try.prog w r b0 22 v) (h : DataW.Trod enc Try.prog w base spare held 22 v d p) : ∃ ls : List Lay, LaysAt w v ls := by
 obtain ⟨a, n, cap, b, off, xs, e, hr, _⟩ := opens_lay.top_slice Try.underlying22 (by kernel_rfl) (by decide) hv h
 exact ⟨xs, a, n, cap, b, off, e, hr⟩
end Go.Proofs.Ytgknjikjjklaiaa
end
section
set_option linter.unusedVariables false
set_option linter.unusedSimpArgs false
namespace Gal
open Go Go.RowKit
theorem mats_cells {w : World} {F : Nat → Prop} {a : Option Addr} {n k b o : Nat} {ms : List Mat} {i : Nat} (h : RowAt Form.mat w F a n k b o ms) (hi : i < n) :
  ∃ a1 n1 k1 b1 o1, Cells3 w b (o + i * 3) (.int .i64 (mx ms i).rows) (.int .i64 (mx ms i).cols) (.slice a1 n1 k1) ∧ IntsAt w a1 n1 k1 b1 o1 (mx ms i).cells := by
 have hx : ms[i]? = some (mx ms i) := by unfold mx; rw [List.getElem?_eq_getElem (by have := h.len; omega)]; rfl
 obtain ⟨cs, ⟨a1, n1, k1, b1, o1, rfl, _, x1⟩, hc⟩ := h.cell i _ hx
 exact ⟨a1, n1, k1, b1, o1, ⟨hc 0 (by decide), hc 1 (by decide), hc 2 (by decide)⟩, x1⟩
end Gal
namespace Go.Proofs.Ytgknjikjjklaiaa
open Go.RowKit Gal Go.ChangeShapes Go.WideShapes
set_option maxRecDepth 100000
set_option maxRecDepth 100000
set_option maxHeartbeats 4000000
end Go.Proofs.Ytgknjikjjklaiaa
end
