/- strings.CutPrefix at "-", strings.Cut at ".". -/
import Derived.Test.YtchngeagnlngaaaDoorText2
import Derived.Lib.CutLaws
set_option linter.unusedVariables false
set_option linter.unusedSimpArgs false
namespace Go.Proofs.YtchngeagnlngaaaDoor
open Go.RowKit Gal
set_option maxHeartbeats 2000000 in
set_option maxRecDepth 100000 in
theorem sl_cut (l : List UInt8) (w : World) (hl : l.length ≤ 9223372036854775807) : Calls Tryd.prog 39 #[.string ⟨l.toArray⟩, .string ⟨#[46]⟩] w fun e w' => e = .returned (.tuple #[.string ⟨(wholeOf l).toArray⟩, .string ⟨(restOf l).toArray⟩, .bool (Lib.cut l [46]).2.2]) ∧ Below w.heap.size w w' := by
  rcases Lib.indexB_cases ⟨l.toArray⟩ ⟨#[46]⟩ with hix | ⟨i, hix, hroom⟩
  · obtain ⟨e1, e2, e3⟩ := Lib.cutB_miss ⟨l.toArray⟩ ⟨#[46]⟩ hix
    have hix' : Hid (Lib.indexByte l 46 = -1) := Lib.hid ((Lib.index_one l 46).symm.trans hix)
    have E1 : Hid ((⟨(wholeOf l).toArray⟩ : ByteArray) = ⟨l.toArray⟩) := Lib.hid e1
    have E2 : Hid ((⟨(restOf l).toArray⟩ : ByteArray) = ByteArray.empty) := Lib.hid e2
    have E3 : Hid ((Lib.cut l [46]).2.2 = false) := Lib.hid e3
    clear e1 e2 e3 hix
    rw [E1.out, E2.out, E3.out]
    go_enter Tryd.func39, Tryd.ntmps39
    go_wp2_with (go_at_call 67; refine (Tryd.stringslite_Index_one ⟨l.toArray⟩ 46 _).mono ?_; rintro e w' ⟨rfl, rfl⟩; rw [show Lib.indexByte (ByteArray.mk l.toArray).data.toList 46 = -1 from hix'.out])
    go_ret3
    exact ⟨rfl, Below.refl _ _⟩
  · obtain ⟨e1, e2, e3⟩ := Lib.cutB_hit ⟨l.toArray⟩ ⟨#[46]⟩ i hix
    have hix' : Hid (Lib.indexByte l 46 = i) := Lib.hid ((Lib.index_one l 46).symm.trans hix)
    have E1 : Hid ((⟨(wholeOf l).toArray⟩ : ByteArray) = (⟨l.toArray⟩ : ByteArray).extract 0 i) := Lib.hid e1
    have E2 : Hid ((⟨(restOf l).toArray⟩ : ByteArray) = (⟨l.toArray⟩ : ByteArray).extract (i + 1) l.length) := Lib.hid e2
    have E3 : Hid ((Lib.cut l [46]).2.2 = true) := Lib.hid e3
    have hr : i + 1 ≤ l.length := hroom
    have hr2 : i ≤ l.length := by omega
    have hr3 : (i : Int) + 1 ≤ (l.length : Int) := by omega
    have hr4 : (0 : Int) ≤ (i : Int) + 1 := by omega
    have hr5 : (i : Int) ≤ (l.length : Int) := by omega
    have hr6 : (0 : Int) ≤ (i : Int) := by omega
    clear e1 e2 e3 hix hroom
    rw [E1.out, E2.out, E3.out]
    go_enter Tryd.func39, Tryd.ntmps39
    go_wp2_with (go_at_call 67; refine (Tryd.stringslite_Index_one ⟨l.toArray⟩ 46 _).mono ?_; rintro e w' ⟨rfl, rfl⟩; rw [show Lib.indexByte (ByteArray.mk l.toArray).data.toList 46 = i from hix'.out])
    go_region
    all_goals (go_wp2; go_ret3; exact ⟨rfl, (by repeat (first | fail | (with_reducible exact Below.refl _ _) | (with_reducible refine Below.al ?_ _) | (with_reducible refine Below.drN ?_ _) | (with_reducible refine Below.drew ?_) | (with_reducible refine Below.st ?_ ?_ _; rotate_left 1; (first | (dsimp only; omega) | omega | (simp; omega) | simp)) | exact Below.refl _ _))⟩)
set_option maxHeartbeats 2000000 in
set_option maxRecDepth 100000 in
theorem cut_any (l : List UInt8) (w : World) (hl : l.length ≤ 9223372036854775807) : Calls Tryd.prog 25 #[.string ⟨l.toArray⟩, .string ⟨#[46]⟩] w fun e w' => e = .returned (.tuple #[.string ⟨(wholeOf l).toArray⟩, .string ⟨(restOf l).toArray⟩, .bool (Lib.cut l [46]).2.2]) ∧ Below w.heap.size w w' := by
  go_enter Tryd.func25, Tryd.ntmps25
  go_wp2_with (go_at_call 39; refine (sl_cut l _ hl).mono ?_; rintro e w1 ⟨rfl, hb1⟩)
  go_ret3
  exact ⟨rfl, hb1⟩
set_option maxHeartbeats 2000000 in
set_option maxRecDepth 100000 in
theorem sl_cutPrefix (l : List UInt8) (w : World) (hl : l.length ≤ 9223372036854775807) : Calls Tryd.prog 38 #[.string ⟨l.toArray⟩, .string ⟨#[45]⟩] w fun e w' => e = .returned (.tuple #[.string ⟨(bare l).toArray⟩, .bool (signed l)]) ∧ w = w' := by
  by_cases h : signed l = true
  · have H : Hid (Lib.hasPrefix l [45] = true) := Lib.hid h
    have HB : Hid ((⟨(bare l).toArray⟩ : ByteArray) = (⟨l.toArray⟩ : ByteArray).extract 1 l.length) := Lib.hid (by
      have : (⟨((⟨l.toArray⟩ : ByteArray).extract 1 l.length).data.toList.toArray⟩ : ByteArray) = (⟨l.toArray⟩ : ByteArray).extract 1 l.length := rfl
      rw [← this]
      have h2 := Lib.extract_to_end (⟨l.toArray⟩ : ByteArray) 1
      have h3 : (⟨l.toArray⟩ : ByteArray).size = l.length := by simp [ByteArray.size]
      rw [h3] at h2
      rw [h2]
      unfold bare
      rw [if_pos h])
    have hp : 1 ≤ l.length := by
      cases l with
      | nil => exact absurd h (by decide)
      | cons c l => simp
    have hp2 : (1 : Int) ≤ (l.length : Int) := by omega
    rw [h, HB.out]
    clear h
    go_enter Tryd.func38, Tryd.ntmps38
    go_wp2_with (go_at_call 66; refine (Tryd.stringslite_HasPrefix ⟨l.toArray⟩ ⟨#[45]⟩ _).mono ?_; rintro e w' ⟨rfl, rfl⟩; rw [show Lib.hasPrefix (ByteArray.mk l.toArray).data.toList (ByteArray.mk #[45]).data.toList = true from H.out])
    go_ret2
    exact ⟨rfl, rfl⟩
  · have h' : signed l = false := by simpa using h
    have H : Hid (Lib.hasPrefix l [45] = false) := Lib.hid h'
    have HB : bare l = l := by unfold bare; rw [if_neg h]
    rw [h', HB]
    clear h h' HB
    go_enter Tryd.func38, Tryd.ntmps38
    go_wp2_with (go_at_call 66; refine (Tryd.stringslite_HasPrefix ⟨l.toArray⟩ ⟨#[45]⟩ _).mono ?_; rintro e w' ⟨rfl, rfl⟩; rw [show Lib.hasPrefix (ByteArray.mk l.toArray).data.toList (ByteArray.mk #[45]).data.toList = false from H.out])
    go_ret2
    exact ⟨rfl, rfl⟩
set_option maxHeartbeats 2000000 in
set_option maxRecDepth 100000 in
theorem cutPrefix_any (l : List UInt8) (w : World) (hl : l.length ≤ 9223372036854775807) : Calls Tryd.prog 24 #[.string ⟨l.toArray⟩, .string ⟨#[45]⟩] w fun e w' => e = .returned (.tuple #[.string ⟨(bare l).toArray⟩, .bool (signed l)]) ∧ w = w' := by
  go_enter Tryd.func24, Tryd.ntmps24
  go_wp2_with (go_at_call 38; refine (sl_cutPrefix l _ hl).mono ?_; rintro e w1 ⟨rfl, rfl⟩)
  go_ret2
  exact ⟨rfl, rfl⟩
end Go.Proofs.YtchngeagnlngaaaDoor
