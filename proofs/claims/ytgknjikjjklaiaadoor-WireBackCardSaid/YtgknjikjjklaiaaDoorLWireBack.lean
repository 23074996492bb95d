/- WireBack: what is encoded is decoded, whatever stands behind it; of a shorter beginning nothing is: the law returns true. No condition. -/
import Derived.Test.YtgknjikjjklaiaaDoorCards
import Derived.Test.YtgknjikjjklaiaaDoorTie
import Derived.Test.YtgknjikjjklaiaaDoorWire2
import Derived.Test.YtgknjikjjklaiaaDoorWire4
import Derived.Test.YtgknjikjjklaiaaDoorMsgs
import Derived.Test.YtgknjikjjklaiaaDoorTold
import Derived.Test.YtgknjikjjklaiaaDoorOpenM
import Derived.Test.YtgknjikjjklaiaaDoorSameI
import Derived.Test.YtgknjikjjklaiaaDoorSizedG
import Derived.Deep.DeepHandedRow
set_option linter.unusedVariables false
set_option linter.unusedSimpArgs false
set_option linter.unusedSectionVars false
set_option maxRecDepth 100000
namespace Go.Proofs.YtgknjikjjklaiaaDoor.lawWireBack
open Go.ChangeShapes Go.WideShapes Go.ChangeAt Go.RowKit Gal
set_option maxHeartbeats 8000000
def BytesIn (w : World) (v : Value) (xs : List Nat) : Prop := BytesV w v xs ∧ xs.length ≤ reachBytes
theorem open_Message_sized {H : Type} {enc : TypeId × Value → H} {w : World} {base b0 : Nat} {r : Reach} {spare : Nat → Bool} {held : Bool} {v : Value} {d : DataW H} {p : List MemPlace}
    (hv : Value.okWide Tryd.prog w r b0 26 v) (h : DataW.Trod enc Tryd.prog w base spare held 26 v d p) (hs : Within (d.weights Tryd.prog 26)) : ∃ m : MsgD, MsgV w v m := open_Message hv h
theorem open_luint8_sized {H : Type} {enc : TypeId × Value → H} {w : World} {base b0 : Nat} {r : Reach} {spare : Nat → Bool} {held : Bool} {v : Value} {d : DataW H} {p : List MemPlace}
    (hv : Value.okWide Tryd.prog w r b0 27 v) (h : DataW.Trod enc Tryd.prog w base spare held 27 v d p) (hs : Within (d.weights Tryd.prog 27)) : ∃ xs : List Nat, BytesIn w v xs := by
  obtain ⟨xs, ⟨a, n, k, b, o, e, hr⟩, h1, _⟩ := OpensS.top_slice (Opens.sized opens_u8) Tryd.underlying27 (by kernel_rfl) (show _ = 1 by kernel_rfl) (by decide) hv h hs
  exact ⟨xs, ⟨a, n, k, b, o, e, hr⟩, by omega⟩
theorem ints_one {W : World} {b : Nat} {x : Int} {t : TypeId} (h : Box W b [.int .i64 x] t) : IntsAt W (some ⟨b, 0, none⟩) 1 1 b 0 [x] :=
  ⟨rfl, Nat.le_refl _, by decide, fun _ => rfl, fun _ => h.lt, fun i (hi : i < 1) => by
    obtain rfl : i = 0 := by omega
    exact h.cell 0⟩
theorem fact_three : (msgBytes ⟨1, 0, ⟨1, 1, [-3]⟩⟩).length = 7 ∧ bt (msgBytes ⟨1, 0, ⟨1, 1, [-3]⟩⟩) 4 = 5 := by decide +kernel
theorem len_bound {m : MsgD} (h : msgFault m = 0) : 2 ≤ (msgBytes m).length ∧ (msgBytes m).length ≤ 3000 := by
  obtain ⟨h1, h2, h3⟩ := msgFault_ok h
  obtain ⟨h4, h5, h6, h7⟩ := matFault_0 h3
  have hr : m.body.rows * m.body.cols ≤ 24 * 12 := by
    have a1 : m.body.rows * m.body.cols ≤ 24 * m.body.cols := Int.mul_le_mul_of_nonneg_right h4.2 h5.1
    omega
  have hn : (msgNums m).length ≤ 292 := by unfold msgNums; simp; omega
  have hl := sevens_len (l := msgNums m)
  unfold msgBytes withSums
  rw [List.length_append]
  simp only [List.length_cons, List.length_nil]
  have := hl fun x hx => by have := msgNums_lt h x hx; omega
  omega
theorem walk (m : MsgD) (v0 : Value) (more : List Nat) (v1 : Value) (ct : Int) (w : World) (hm : MsgV w v0 m) (hx : BytesIn w v1 more) (hct : (Lit.int IntKind.i64 ct).wf = true) (hh : Handle w) :
    Calls Tryd.prog 6 #[v0, v1, .int .i64 ct] w fun e w' => e = .returned (.bool true) ∧ Below w.heap.size w w' := by
  obtain ⟨a, n, k, b, o, rfl, hm⟩ := hm
  obtain ⟨⟨a', n', k', b', o', rfl, hr⟩, hsz⟩ := hx
  have hsz2 : n' ≤ 140737488351232 := by have h1 := hr.len; unfold reachBytes at hsz; omega
  have HSZ := Lib.hid hsz2
  obtain ⟨c0, c1⟩ : -9223372036854775808 ≤ ct ∧ ct ≤ 9223372036854775807 := by
    simp [Lit.wf, IntKind.min, IntKind.max, IntKind.signed, IntKind.bits] at hct
    omega
  have HCT := Lib.hid (And.intro c0 c1)
  obtain ⟨i0, hi, hz0, hz1, hz2⟩ := info_parts info_byte
  obtain ⟨v3, hv3⟩ : ∃ v3, msgBytes ⟨1, 0, ⟨1, 1, [-3]⟩⟩ = v3 := ⟨_, rfl⟩
  have HL3 : Hid (v3.length = 7) := Lib.hid (by rw [← hv3]; exact fact_three.1)
  have HB3 : Hid (bt v3 4 = 5) := Lib.hid (by rw [← hv3]; exact fact_three.2)
  have hct3 : ∀ (W : World) (p : Nat), IntsAt W (some ⟨p, 0, none⟩) 1 1 p 0 [-3] → Calls Tryd.prog 9 #[.agg #[.int .i64 1, .int .i64 0, .int .i64 1, .int .i64 1, .slice (some ⟨p, 0, none⟩) 1 1]] W fun e w' => ∃ v', e = .returned (.tuple #[v', .nilIface]) ∧ OwnRow Form.u8 5 w' W.heap.size noK v' v3 ∧ Below W.heap.size W w' := fun W p h => by
    rw [← hv3]
    exact wireEncode_ok ⟨1, 0, ⟨1, 1, [-3]⟩⟩ _ _ _ _ _ _ h (by decide)
  clear hsz hsz2 hct c0 c1 hv3
  go_enter Tryd.func6, Tryd.ntmps6
  go_wp2_with fail
  refine (hct3 _ (w.heap.size + 1) (ints_one (Box.new' _ (w.heap.size + 1) [.int .i64 (-3)] 3 (by simp)))).mono ?_
  rintro e w1 ⟨vE, rfl, hownE, hb1⟩
  have B3 := ((show Box _ w.heap.size [.int .i64 m.kind, .int .i64 m.micro, .int .i64 m.body.rows, .int .i64 m.body.cols, .slice a n k] 26 from (by repeat (first | fail | (with_reducible refine (Box.new' _ w.heap.size _ _ ?_); (simp; done)) | (with_reducible refine Box.alloc ?_ _) | (with_reducible refine Box.drewN ?_ _) | (with_reducible refine Box.drew ?_) | (with_reducible refine Box.far ?_ ?_ _; rotate_left 1; (first | (dsimp only; omega) | omega | (simp; omega) | simp)))))).keep hb1
  have B3c := B3.cell
  have B3f := B3.thawed
  have B3z := B3.lt
  have B3k := lt_add B3z
  have hkw1 : Below w.heap.size w w1 := (by repeat (first | fail | (with_reducible exact Below.refl _ _) | (with_reducible refine Below.al ?_ _) | (with_reducible refine Below.drN ?_ _) | (with_reducible refine Below.drew ?_) | (with_reducible refine Below.st ?_ ?_ _; rotate_left 1; (first | (dsimp only; omega) | omega | (simp; omega) | simp)) | (with_reducible refine Below.go ?_ hb1) | exact Below.refl _ _))
  replace hm := hm.keep hkw1
  replace hr := hr.keep hkw1
  replace hh := hh.keep hkw1
  have hsw1 := hkw1.size
  obtain ⟨aE, kE, bE, hvE, _, rE⟩ := hownE.row (G := anyB) (fun _ _ _ => trivial) (fun _ _ => trivial)
  rw [HL3.out] at hvE rE
  subst hvE
  obtain rfl := rE.ptr (by decide)
  have cE := (u8_cell rE (i := 4) (by decide)).1
  rw [HB3.out] at cE
  clear hownE hct3 rE
  by_cases hf : msgFault m = 0
  · obtain ⟨L, hL⟩ : ∃ L, msgBytes m = L := ⟨_, rfl⟩
    have HLB : Hid (2 ≤ L.length ∧ L.length ≤ 3000) := Lib.hid (by rw [← hL]; exact len_bound hf)
    have HBK : Hid (∀ more, msgRead (L ++ more) = some (m, L.length)) := Lib.hid (fun more => by rw [← hL]; exact msg_back hf more)
    have HSH : Hid (∀ q, q < L.length → msgRead (L.take q) = none) := Lib.hid (fun q hq => by rw [← hL] at hq ⊢; exact msg_short hf hq)
    have hen := wireEncode_ok m a n k b o w1 hm hf
    rw [hL] at hen
    clear hf hL
    go_wp2_with fail
    refine (hen).mono ?_
    rintro e w2 ⟨vB, rfl, hownB, hb2⟩
    have hkw2 : Below w1.heap.size w1 w2 := (by repeat (first | fail | (with_reducible exact Below.refl _ _) | (with_reducible refine Below.al ?_ _) | (with_reducible refine Below.drN ?_ _) | (with_reducible refine Below.drew ?_) | (with_reducible refine Below.st ?_ ?_ _; rotate_left 1; (first | (dsimp only; omega) | omega | (simp; omega) | simp)) | (with_reducible refine Below.go ?_ hb2) | exact Below.refl _ _))
    replace B3 := B3.keep hkw2
    replace B3c := B3.cell
    replace B3f := B3.thawed
    replace B3z := B3.lt
    replace B3k := lt_add B3z
    replace hm := hm.keep hkw2
    replace hr := hr.keep hkw2
    replace hh := hh.keep hkw2
    have hsw2 := hkw2.size
    obtain ⟨aB, kB, bB, rfl, _, rB⟩ := hownB.row (G := anyB) (fun _ _ _ => trivial) (fun _ _ => trivial)
    obtain rfl := rB.ptr (by have := HLB.out; omega)
    have hbw2 : Below w.heap.size w w2 := (by repeat (first | fail | (with_reducible exact Below.refl _ _) | (with_reducible refine Below.al ?_ _) | (with_reducible refine Below.drN ?_ _) | (with_reducible refine Below.drew ?_) | (with_reducible refine Below.st ?_ ?_ _; rotate_left 1; (first | (dsimp only; omega) | omega | (simp; omega) | simp)) | (with_reducible refine Below.go ?_ hb2) | (with_reducible refine Below.go ?_ hb1) | exact Below.refl _ _))
    clear hownB hen cE
    go_wp2_with (at_builtin; go_must (refine wpList_append_flat rfl (.tmp 43) (.tmp 44) 27 rfl Form.u8 u8_plainly w2.heap.size noK 5 i0 (.int .u8 0) 1 Tryd.underlying27 hi hz0 hz1 hz2 rfl (by decide) (.slice (some ⟨w2.heap.size, 0, none⟩) 0 0) [] rfl (OwnRow.made Form.u8 5 w2 w2.heap.size w2.heap.size noK #[] 0 rfl (Nat.le_refl _) (Nat.zero_le _) rfl) anyB (some ⟨bB, 0, none⟩) L.length kB bB 0 L rfl (rB.alloc _) (by have := HLB.out; simp; omega) (by have := HLB.out; unfold maxLen; simp; omega) (by simp) ?_))
    intro v5 w5 hown5 hg5 hlies5
    have hb5 : Below w2.heap.size w2 w5 := Below.grown ((Below.refl w2.heap.size w2).alloc (Nat.le_refl _) _) hg5 (by simp) (fun q hq => by simp [Value.ownBlock] at hq; omega)
    clear hg5 hlies5
    go_wp2_with (at_builtin; go_must (refine wpList_append_flat rfl (.tmp 46) (.tmp 47) 27 rfl Form.u8 u8_plainly w2.heap.size noK 5 i0 (.int .u8 0) 1 Tryd.underlying27 hi hz0 hz1 hz2 rfl (by decide) v5 L rfl hown5 anyB a' n' k' b' o' more rfl (hr.keep hb5) (by have := HLB.out; have := HSZ.out; omega) (by have := HLB.out; have := HSZ.out; unfold maxLen; omega) hb5.size ?_))
    intro v6 w6 hown6 hg6 hlies6
    have hb6 : Below w2.heap.size w2 w6 := Below.grown hb5 hg6 hb5.size (fun q hq => (hown5.base_le q hq).1)
    obtain ⟨av, cv, bv, rfl, _, rA⟩ := hown6.row (G := anyB) (fun _ _ _ => trivial) (fun _ _ => trivial)
    have hkw6 : Below w2.heap.size w2 w6 := (by repeat (first | fail | (with_reducible exact Below.refl _ _) | (with_reducible refine Below.al ?_ _) | (with_reducible refine Below.drN ?_ _) | (with_reducible refine Below.drew ?_) | (with_reducible refine Below.st ?_ ?_ _; rotate_left 1; (first | (dsimp only; omega) | omega | (simp; omega) | simp)) | (with_reducible refine Below.go ?_ hb6) | exact Below.refl _ _))
    replace B3 := B3.keep hkw6
    replace B3c := B3.cell
    replace B3f := B3.thawed
    replace B3z := B3.lt
    replace B3k := lt_add B3z
    replace hm := hm.keep hkw6
    replace hh := hh.keep hkw6
    replace rB := rB.keep hkw6
    have hbw6 : Below w.heap.size w w6 := (by repeat (first | fail | (with_reducible exact Below.refl _ _) | (with_reducible exact hbw2) | (with_reducible refine Below.al ?_ _) | (with_reducible refine Below.drN ?_ _) | (with_reducible refine Below.drew ?_) | (with_reducible refine Below.st ?_ ?_ _; rotate_left 1; (first | (dsimp only; omega) | omega | (simp; omega) | simp)) | (with_reducible refine Below.go ?_ hb6) | exact Below.refl _ _ | exact hbw2))
    obtain ⟨N, hNN⟩ : ∃ N, (L ++ more).length = N := ⟨_, rfl⟩
    rw [hNN] at rA ⊢
    clear hown5 hown6 hg6 hlies6 hb5 hNN hr hbw2
    go_wp2_with fail
    refine (wireDecode_any (L ++ more) av N cv bv 0 anyB _ rA).mono ?_
    rintro e w7 ⟨v7, m7, N7, err7, rfl, ⟨a7, n7, k7, b7, o7, rfl, hm7⟩, hb7, hd7⟩
    obtain ⟨rfl, rfl, rfl⟩ : m7 = m ∧ N7 = (L.length : Int) ∧ err7 = 0 := by
      rcases hd7 with ⟨h1, h2, h3⟩ | ⟨h1, _⟩
      · rw [HBK.out more] at h1
        simp only [Option.some.injEq, Prod.mk.injEq] at h1
        exact ⟨h1.1.symm, by omega, h3⟩
      · rw [HBK.out more] at h1; cases h1
    rw [show errV 0 = .nilIface from errV_nil rfl]
    clear hd7 rA
    have hkw7 : Below w6.heap.size w6 w7 := (by repeat (first | fail | (with_reducible exact Below.refl _ _) | (with_reducible refine Below.al ?_ _) | (with_reducible refine Below.drN ?_ _) | (with_reducible refine Below.drew ?_) | (with_reducible refine Below.st ?_ ?_ _; rotate_left 1; (first | (dsimp only; omega) | omega | (simp; omega) | simp)) | (with_reducible refine Below.go ?_ hb7) | exact Below.refl _ _))
    replace B3 := B3.keep hkw7
    replace B3c := B3.cell
    replace B3f := B3.thawed
    replace B3z := B3.lt
    replace B3k := lt_add B3z
    replace hm := hm.keep hkw7
    replace hh := hh.keep hkw7
    replace rB := rB.keep hkw7
    have hsw7 := hkw7.size
    go_wp2_with fail
    refine (messages_same m7 _ _ _ ⟨_, _, _, _, _, rfl, hm7.alloc _⟩ ⟨_, _, _, _, _, rfl, hm.alloc _⟩).mono ?_
    rintro e w8 ⟨rfl, hb8⟩
    have e1 : ((L.length : Int) != (L.length : Int)) = false := by simp
    have hbw8 : Below w.heap.size w w8 := (by repeat (first | fail | (with_reducible exact Below.refl _ _) | (with_reducible exact hbw6) | (with_reducible refine Below.al ?_ _) | (with_reducible refine Below.drN ?_ _) | (with_reducible refine Below.drew ?_) | (with_reducible refine Below.st ?_ ?_ _; rotate_left 1; (first | (dsimp only; omega) | omega | (simp; omega) | simp)) | (with_reducible refine Below.go ?_ hb8) | (with_reducible refine Below.go ?_ hb7) | exact Below.refl _ _ | exact hbw6))
    have hh8 := hh.keep ((by repeat (first | fail | (with_reducible exact Below.refl _ _) | (with_reducible refine Below.al ?_ _) | (with_reducible refine Below.drN ?_ _) | (with_reducible refine Below.drew ?_) | (with_reducible refine Below.st ?_ ?_ _; rotate_left 1; (first | (dsimp only; omega) | omega | (simp; omega) | simp)) | (with_reducible refine Below.go ?_ hb8) | exact Below.refl _ _)) : Below w7.heap.size w7 w8)
    have rB8 := rB.keep ((by repeat (first | fail | (with_reducible exact Below.refl _ _) | (with_reducible refine Below.al ?_ _) | (with_reducible refine Below.drN ?_ _) | (with_reducible refine Below.drew ?_) | (with_reducible refine Below.st ?_ ?_ _; rotate_left 1; (first | (dsimp only; omega) | omega | (simp; omega) | simp)) | (with_reducible refine Below.go ?_ hb8) | exact Below.refl _ _)) : Below w7.heap.size w7 w8)
    obtain ⟨n0, hn0⟩ : ∃ n0, L.length = n0 := ⟨_, rfl⟩
    have hlb := HLB.out
    rw [hn0] at e1 rB8 hlb ⊢
    have HN0 := Lib.hid hn0
    obtain ⟨q, hq⟩ : ∃ q : Nat, pickOf ct (n0 : Int) = (q : Int) := ⟨(pickOf ct n0).toNat, by
      have : 0 ≤ pickOf ct n0 := by unfold pickOf; exact Int.emod_nonneg _ (by omega)
      omega⟩
    have hqn : q < n0 := by
      have : pickOf ct n0 < n0 := by unfold pickOf; exact Int.emod_lt_of_pos _ (by omega)
      omega
    have HQ := Lib.hid hq
    clear hq hm7 hm hn0 B3 B3c B3f B3z B3k hb7 hb8 hbw6 hh rB
    go_wp2_with fail
    refine (pick_any ct n0 _ HCT.out.1 HCT.out.2 (by omega) (by omega)).mono ?_
    rintro e w9 ⟨rfl, rfl⟩
    rw [HQ.out]
    have hcap := rB8.le
    have hcap2 := rB8.maxc
    unfold maxLen at hcap2
    have p0 : (0 : Int) ≤ (q : Int) := by omega
    have p1 : (q : Int) ≤ (kB : Int) := by omega
    have hrt := rB8.firstk (k := q) (by omega)
    go_wp2_with fail
    refine (wireDecode_any (L.take q) _ q kB bB 0 anyB _ hrt).mono ?_
    rintro e w10 ⟨v9, m9, N9, err9, rfl, ⟨a9, n9, k9, b9, o9, rfl, hm9⟩, hb10, hd9⟩
    obtain rfl : err9 = 7 := by
      rcases hd9 with ⟨h1, h2, h3⟩ | ⟨h1, _, _, h3⟩
      · rw [HSH.out q (by rw [HN0.out]; exact hqn)] at h1; cases h1
      · exact h3
    have hh9 := hh8.keep hb10
    have hbe10 : Below w.heap.size w w10 := (by repeat (first | fail | (with_reducible exact Below.refl _ _) | (with_reducible exact hbw8) | (with_reducible refine Below.al ?_ _) | (with_reducible refine Below.drN ?_ _) | (with_reducible refine Below.drew ?_) | (with_reducible refine Below.st ?_ ?_ _; rotate_left 1; (first | (dsimp only; omega) | omega | (simp; omega) | simp)) | (with_reducible refine Below.go ?_ hb10) | (with_reducible refine Below.go ?_ hb9) | exact Below.refl _ _ | exact hbw8))
    clear hd9 hrt rB8 hm9
    go_wp2_with fail
    refine (error_any 7 7 _ hh9).mono ?_
    rintro e w11 ⟨rfl, hb11⟩
    rw [show decide ((7 : Int) = 7) = true from rfl]
    have hbe : Below w.heap.size w w11 := (by repeat (first | fail | (with_reducible exact Below.refl _ _) | (with_reducible exact hbe10) | (with_reducible refine Below.al ?_ _) | (with_reducible refine Below.drN ?_ _) | (with_reducible refine Below.drew ?_) | (with_reducible refine Below.st ?_ ?_ _; rotate_left 1; (first | (dsimp only; omega) | omega | (simp; omega) | simp)) | (with_reducible refine Below.go ?_ hb11) | exact Below.refl _ _ | exact hbe10))
    go_wp2
    go_ret
    exact ⟨rfl, hbe⟩
  · have hen := wireEncode_bad m a n k b o w1 hm hf
    have hv := errV_err hf
    rw [hv] at hen
    clear hf hv
    go_wp2_with fail
    refine (hen).mono ?_
    rintro e w2 ⟨rfl, hb2⟩
    have hbe : Below w.heap.size w w2 := (by repeat (first | fail | (with_reducible exact Below.refl _ _) | (with_reducible refine Below.al ?_ _) | (with_reducible refine Below.drN ?_ _) | (with_reducible refine Below.drew ?_) | (with_reducible refine Below.st ?_ ?_ _; rotate_left 1; (first | (dsimp only; omega) | omega | (simp; omega) | simp)) | (with_reducible refine Below.go ?_ hb2) | (with_reducible refine Below.go ?_ hb1) | exact Below.refl _ _))
    clear hen hr
    go_wp2
    go_ret
    exact ⟨rfl, hbe⟩

theorem own : ownKnob Tryd.prog.godebug = none := by kernel_rfl
theorem laidOut : laidOutB Tryd.prog = true := by kernel_rfl
theorem et : Tryd.prog.globalNamed "errors.errorType" = some 1 := by kernel_rfl
theorem rt : (Tryd.prog.cutTypes.find? (·.1 == "internal/reflectlite.rtype")).map (·.2) = some 147 := by kernel_rfl
theorem oneRow : ((List.range 205).filter fun t => Tryd.prog.rowNamed t [101, 114, 114, 111, 114]) = [29] := by kernel_rfl
theorem tsize : Tryd.prog.types.size = 205 := by kernel_rfl
theorem handle_of_laid {W : World} (h : laidMetH Tryd.prog Rows.wireBackRow.laid W) : Handle W := by
  have h' : laidMet Tryd.prog [] W ∧ handlesMet Tryd.prog Rows.wireBackRow.laid W := h
  obtain ⟨name, u, ty, e1, e2, e3, e4, e5⟩ := h'.2 _ (List.mem_singleton.2 rfl)
  have en : name = [101, 114, 114, 111, 114] := (Option.some.inj e1).symm
  subst en
  obtain rfl := Option.some.inj (rt.symm.trans e2)
  have hm : ty ∈ (List.range 205).filter fun t => Tryd.prog.rowNamed t [101, 114, 114, 111, 114] := List.mem_filter.2 ⟨List.mem_range.2 (by rw [← tsize]; exact e3), e4⟩
  rw [oneRow] at hm
  obtain rfl := List.mem_singleton.1 hm
  have hh : typeHandle Tryd.prog 29 = .pointer (some ⟨2, 29, none⟩) := by kernel_rfl
  rw [hh] at e5
  simpa [Handle, handleV] using World.var?_cell et e5 0
noncomputable def laidWorld (os : Os) : World :=
  { World.holding Tryd.prog os ⟨#[], #[], []⟩ with heap := (World.holding Tryd.prog os ⟨#[], #[], []⟩).heap.modify 1 fun
      | .cells _ t frozen => .cells #[.iface 147 (.agg #[.pointer (some ⟨2, 29, none⟩)])] t frozen
      | o => o }
theorem laid_met (os : Os) : laidMetH Tryd.prog Rows.wireBackRow.laid ((laidWorld os).forCall (fun _ _ => 0) ⟨#[], #[.agg #[.int .i64 0, .int .i64 0, .int .i64 0, .int .i64 0, .slice none 0 0], .slice none 0 0, .int .i64 0], []⟩).memory :=
  laidMetH_of_parts (laidMet_nil _ _) (by kernel_rfl)
theorem reads (os : Os) {H : Type} (enc : TypeId × Value → H) : ∃ places, DataW.whole enc Tryd.prog ((laidWorld os).forCall (fun _ _ => 0) ⟨#[], #[.agg #[.int .i64 0, .int .i64 0, .int .i64 0, .int .i64 0, .slice none 0 0], .slice none 0 0, .int .i64 0], []⟩).memory Tryd.f6.params.toList Rows.wireBackSpec.vars false (#[.agg #[.int .i64 0, .int .i64 0, .int .i64 0, .int .i64 0, .slice none 0 0], .slice none 0 0, .int .i64 0] : Array Value).toList 8 = some ([.agg [.lit (.int .i64 0), .lit (.int .i64 0), .agg [.lit (.int .i64 0), .lit (.int .i64 0), .nil]], .nil, .lit (.int .i64 0)], [], places) :=
  ⟨[], by kernel_rfl⟩
set_option maxRecDepth 100000 in
set_option maxHeartbeats 1000000 in
theorem contract (H : Type) (enc : TypeId × Value → H) (W : World) (base : Nat) (args : Array Value) (ds gs : List (DataW H)) (before : List MemPlace)
    (hval0 : ∀ (j : Nat) t v, Tryd.f6.params[j]? = some t → args[j]? = some v → Value.okWide Tryd.prog W .any base t v)
    (hW : DataW.Whole enc Tryd.prog Tryd.f6.params.toList Rows.wireBackSpec.vars false W args.toList ds gs before) (hh : Handle W) (hs0 : (DataW.weightsEach Tryd.prog (Tryd.f6.params.toList ++ (OpenSpec.ofChange Rows.wireBackSpec).bare.plain.varTypes Tryd.prog) (ds ++ gs)).all (· ≤ reachBytes) = true) :
    Calls Tryd.prog 6 args W fun e W' => ∃ v, e = .returned v ∧ Rows.wireBackSpec.post enc Tryd.prog Tryd.f6 false true false false W args v W' := by
  have hval := hval0
  have hW' := hW
  obtain ⟨p, q, hA0, hV, rfl, hfz, hnd⟩ := hW
  have hA : DataW.TrodAll enc Tryd.prog W 0 (fun _ => true) true Tryd.f6.params.toList args.toList ds p := hA0
  rw [Tryd.params6] at hA hval
  obtain ⟨v0, vs0, d0, ds0, p0, q0, hargs, rfl, rfl, h0, r0⟩ := trodAll_cons hA
  obtain ⟨v1, vs1, d1, ds1, p1, q1, rfl, rfl, rfl, h1, r1⟩ := trodAll_cons r0
  obtain ⟨v2, vs2, d2, ds2, p2, q2, rfl, rfl, rfl, h2, r2⟩ := trodAll_cons r1
  obtain ⟨rfl, rfl, rfl⟩ := trodAll_nil r2
  obtain rfl : args = #[v0, v1, v2] := by cases args; simp_all
  obtain ⟨rfl, rfl⟩ := trodVars_none hV
  have hs : Gal.Within (DataW.weightsEach Tryd.prog [26, 27, 3] [d0, d1, d2]) := hs0
  simp only [DataW.weightsEach] at hs
  have s0 := hs.left
  have s1 := hs.right.left
  have s2 := hs.right.right.left
  clear hs hs0
  have k0 := h0
  have lt0 : ∀ x ∈ p0, x.block < W.heap.size := by obtain ⟨m, hm⟩ := k0; exact DataW.trod_lt m _ _ _ hm
  have k1 := h1
  have lt1 : ∀ x ∈ p1, x.block < W.heap.size := by obtain ⟨m, hm⟩ := k1; exact DataW.trod_lt m _ _ _ hm
  have k2 := h2
  have lt2 : ∀ x ∈ p2, x.block < W.heap.size := by obtain ⟨m, hm⟩ := k2; exact DataW.trod_lt m _ _ _ hm
  obtain ⟨a0, w0⟩ := open_Message_sized (hval 0 26 v0 rfl rfl) h0 s0
  obtain ⟨a1, w1⟩ := open_luint8_sized (hval 1 27 v1 rfl rfl) h1 s1
  obtain ⟨a2, rfl, rfl, rfl, w2⟩ := open_int Tryd.underlying3 (hval 2 3 v2 rfl rfl) h2
  clear hA0 hval0
  refine (walk a0 v0 a1 v1 a2 W w0 w1 w2 hh).mono fun e W' ⟨he, bel⟩ => ?_
  subst he
  exact ⟨_, rfl, _, _, _, [], _, [], hW', trodAll_mk1 (shut_bool Tryd.underlying4 _), (trodAll_cons_mk (Below.trod laidOut (by kernel_rfl) (of_decide_eq_true (by kernel_rfl)) k0 bel lt0) (trodAll_cons_mk (Below.trod laidOut (by kernel_rfl) (of_decide_eq_true (by kernel_rfl)) k1 bel lt1) (trodAll_cons_mk (Below.trod laidOut (by kernel_rfl) (of_decide_eq_true (by kernel_rfl)) k2 bel lt2) trodAll_mk0))), rfl, bel.frame _, fun h => by cases h⟩

set_option maxRecDepth 100000 in
theorem lifted (os : Os) (started : os.Started) (H : Type) (enc : TypeId × Value → H) (F : Stop.Interp) :
    ReturnsInHanded {} Tryd.checked os 6 .any ((OpenSpec.ofChange Rows.wireBackSpec).preRow enc Tryd.prog Tryd.f6 Rows.wireBackRow.domain false Rows.wireBackRow.laid) (((OpenSpec.ofChange Rows.wireBackSpec).at F).post enc Tryd.prog Tryd.f6 false true false false) := by
  obtain ⟨places, hx⟩ := reads os enc
  refine returnsInHanded_of_row (C := Tryd.checked) (s := OpenSpec.ofChange Rows.wireBackSpec) own started (by kernel_rfl) Tryd.func6
    (witness_row_at (enc := enc) (C := Tryd.checked) false (laidWorld os) #[.agg #[.int .i64 0, .int .i64 0, .int .i64 0, .int .i64 0, .slice none 0 0], .slice none 0 0, .int .i64 0] rfl (by kernel_rfl) (by kernel_rfl) (by kernel_rfl)
      (OpenSpec.preRow_of_cond 8 hx (by kernel_rfl) (fun k hk => by cases hk) (by kernel_rfl) (laid_met os))) ?_
  intro W base args ds gs before hval hW _ _ hsz hL _ _
  exact contract H enc W base args ds gs before hval hW (handle_of_laid hL) hsz

theorem said : Rows.WireBackSaid :=
  OpenClaim.holds_of_cond 6 Tryd.f6 rfl rfl rfl rfl rfl rfl rfl ⟨rfl, rfl, rfl, rfl, rfl⟩ rfl rfl rfl rfl rfl (by kernel_rfl) Tryd.func6 (by kernel_rfl)
    (of_decide_eq_true (by kernel_rfl)) (by unfold Func.isWrapper; first | (rw [if_pos (by decide +kernel)]; kernel_rfl) | (rw [if_neg (by decide +kernel)]; exact ⟨rfl, rfl⟩))
    (fun os started H enc _ F => by rw [OpenClaim.pre_eq_preRow]; exact lifted os started H enc F)
theorem plain (f : FuncId) (fn : Func) (hf : Tryd.pinned.checked.prog.funcNamed Rows.wireBackRow.func = some f) (hfn : Tryd.pinned.checked.prog.funcs[f]? = some fn) :
    Rows.wireBackCard.stood.looks = Tryd.pinned.checked.prog.looks [] ∧ ∀ (j : Nat) t, fn.params[j]? = some t → Tryd.pinned.checked.prog.wantsStandIn t = false := by
  obtain rfl : f = 6 := Option.some.inj ((show Tryd.prog.funcNamed Rows.wireBackRow.func = some 6 by kernel_rfl).symm.trans hf) |>.symm
  obtain rfl : fn = Tryd.f6 := (Option.some.inj (Tryd.func6.symm.trans hfn)).symm
  refine ⟨by kernel_rfl, fun j t ht => ?_⟩
  rw [Tryd.params6] at ht
  have hm := Array.mem_of_getElem? ht
  have hc : t = 26 ∨ t = 27 ∨ t = 3 := by simpa using hm
  rcases hc with rfl | rfl | rfl
  · exact (show Tryd.prog.wantsStandIn 26 = false by kernel_rfl)
  · exact (show Tryd.prog.wantsStandIn 27 = false by kernel_rfl)
  · exact (show Tryd.prog.wantsStandIn 3 = false by kernel_rfl)
theorem proved : Rows.WireBackCardSaid :=
  Claim7.holds_tied_plain_at .later [] _ _ _ _ said (fun _ h => by cases h) (by kernel_rfl) (fun _ h => by cases h) wireBack_row_tie rfl ⟨rfl, rfl⟩ (by kernel_rfl) rfl plain (by kernel_rfl)
#print axioms proved

end Go.Proofs.YtgknjikjjklaiaaDoor.lawWireBack
