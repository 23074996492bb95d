/- What a stage keeps behind each act, as the law reckons it. -/
import Derived.Test.YtjaepdkeldgikaaDoorPeak1
import Derived.Test.YtjaepdkeldgikaaDoorPPlan6
import Derived.Test.YtjaepdkeldgikaaDoorCut5
import Derived.Test.YtjaepdkeldgikaaDoorCut6
import Derived.BigQuiet
set_option linter.unusedVariables false
set_option linter.unusedSimpArgs false
set_option linter.unusedSectionVars false
set_option maxRecDepth 100000
namespace Gal
def nowTo (sz : Int → Int) (l : List ActD) : Nat → Int
  | 0 => 0
  | i + 1 => nowTo sz l i + (if (ax l i).1 = 1 then sz (ax l i).2 else - sz (ax l i).2)
def hiTo (sz : Int → Int) (l : List ActD) : Nat → Int
  | 0 => 0
  | i + 1 => max (hiTo sz l i) (nowTo sz l (i + 1))
theorem now_hi {sz : Int → Int} {l : List ActD} : ∀ i, nowTo sz l i ≤ hiTo sz l i
  | 0 => Int.le_refl _
  | i + 1 => by rw [hiTo]; exact Int.le_max_right _ _
theorem now_bd {sz : Int → Int} (hs : ∀ j, 0 ≤ sz j ∧ sz j ≤ 1000000) {l : List ActD} : ∀ i : Nat, -1000000 * (i : Int) ≤ nowTo sz l i ∧ nowTo sz l i ≤ 1000000 * (i : Int)
  | 0 => by simp [nowTo]
  | i + 1 => by
    have h1 := now_bd hs (l := l) i
    have h2 := hs (ax l i).2
    rw [nowTo]
    split <;> constructor <;> push_cast <;> omega
theorem pk_hi {sz : Int → Int} (hs : ∀ j, 0 ≤ sz j) {l : List ActD} : ∀ i, i ≤ l.length → pkGo sz (nowTo sz l i) (hiTo sz l i) (l.drop i) = pkGo sz 0 0 l
  | 0, _ => rfl
  | i + 1, h => by
    rw [← pk_hi hs i (by omega), drop_ax (show i < l.length by omega), pkGo_cons]
    have h1 := now_hi (sz := sz) (l := l) i
    have h2 := hs (ax l i).2
    rw [hiTo, nowTo]
    by_cases k : (ax l i).1 = 1
    · rw [if_pos k, if_pos k]
    · rw [if_neg k, if_neg k, show nowTo sz l i + -sz (ax l i).2 = nowTo sz l i - sz (ax l i).2 by omega, show max (hiTo sz l i) (nowTo sz l i - sz (ax l i).2) = hiTo sz l i by omega]
theorem pk_is {sz : Int → Int} (hs : ∀ j, 0 ≤ sz j) (l : List ActD) : pkGo sz 0 0 l = hiTo sz l l.length := by
  rw [← pk_hi hs l.length (Nat.le_refl _), List.drop_of_length_le (Nat.le_refl _)]
  rfl
/-- a part went forward at just one place ahead of where it goes back -/
theorem fwd_at {M : Int} {l : List ActD} (h : actsFault M l = 0) {c : Nat} (hc : c < l.length) (hk : (ax l c).1 = 2) : ∃ f, f < c ∧ ∀ j, j < c → ((ax l j).2 = (ax l c).2 ↔ j = f) := by
  obtain ⟨h1, h2, h3, h4⟩ := actsFault_ok h
  have hm := h4 c hc hk
  have hinj : ∀ {i j : Nat}, i < l.length → j < l.length → ax l i = ax l j → i = j := fun {i j} hi hj e => by
    rcases Nat.lt_trichotomy i j with g | g | g
    · exact absurd h2 (twice_iff.1 ⟨j, hj, i, g, e.symm⟩)
    · exact g
    · exact absurd h2 (twice_iff.1 ⟨i, hi, j, g, e⟩)
  obtain ⟨f, hf⟩ := List.getElem?_of_mem hm
  have hfc : f < c + 1 := by
    rcases Nat.lt_or_ge f (c + 1) with g | g
    · exact g
    · rw [List.getElem?_eq_none (by rw [List.length_take]; omega)] at hf; cases hf
  rw [List.getElem?_take_of_lt hfc, ax_get (by omega)] at hf
  simp only [Option.some.injEq] at hf
  have hne : f ≠ c := fun e => by rw [e] at hf; rw [hf] at hk; exact absurd (show (1 : Int) = 2 from hk) (by decide)
  refine ⟨f, by omega, fun j hj => ⟨fun e => ?_, fun e => by rw [e, hf]⟩⟩
  rcases (h1 j (by omega)).1 with k | k
  · exact hinj (by omega) (by omega) (by rw [hf]; exact Prod.ext k e)
  · exact absurd (hinj (i := j) (j := c) (by omega) hc (Prod.ext (by rw [k, hk]) e)) (by omega)
/-- the sizes of parts -/
def szOf (xs : List Int) (j : Int) : Int := ix xs j.toNat
theorem szOf_bd {xs : List Int} (h : costsFault xs = 0) (j : Int) : 0 ≤ szOf xs j ∧ szOf xs j ≤ 1000000 := costs_bd h _
end Gal
namespace Go.Proofs.YtjaepdkeldgikaaDoor
open Go.RowKit Gal Go.Maps
set_option maxHeartbeats 4000000
/-- what a stage keeps behind its i-th act -/
theorem kept_ok (l : List ActD) (xs : List Int) (m i : Nat) (a a' : Option Addr) (n k b o n' k' b' o' : Nat) (F : Nat → Prop) (w : World) (h : RowAt Form.act w F a n k b o l) (h' : IntsAt w a' n' k' b' o' xs) (hf : actsFault m l = 0) (hm : m ≤ 12) (hn' : n' = m) (hx : costsFault xs = 0) (hi : i < n) :
    Calls Tryd.prog 19 #[.slice a n k, .int .i64 i, .slice a' n' k'] w fun e w' => e = .returned (.int .i64 (nowTo (szOf xs) l (i + 1))) ∧ ∃ q, w' = w.drewN q := by
  subst hn'
  have HL := Lib.hid h.len
  have HF := Lib.hid hf
  have HX := Lib.hid (szOf_bd hx)
  have hn24 : n ≤ 24 := by have := (actsFault_ok hf).2.2.1; rw [HL.out] at this; omega
  obtain rfl := h.ptr (by omega)
  have hmx' := h'.max
  unfold maxLen at hmx'
  clear hf hx
  go_enter Tryd.func19, Tryd.ntmps19
  go_wp2
  go_loopw [7, 8] (fun u k wr => ∃ (c q : Nat) (s : Int), c ≤ i + 1 ∧ u = .int .i64 s ∧ k = .int .i64 c ∧ wr = w.drewN q ∧ Hid (s = nowTo (szOf xs) l c)) (fun _ k _ => i + 1 - (intOf k).toNat)
  case atStart => exact ⟨0, 0, 0, Nat.zero_le _, rfl, rfl, rfl, Lib.hid rfl⟩
  case round =>
    obtain ⟨c, q, s, hc, rfl, rfl, rfl, hs⟩ := hrel
    by_cases hlt : c < i + 1
    · have e0 : (c : Int) ≤ (i : Int) := by omega
      obtain ⟨c1, c2⟩ := act_cells h (show c < n by omega)
      obtain ⟨⟨x0, x1⟩, hx⟩ : ∃ x, ax l c = x := ⟨_, rfl⟩
      rw [hx] at c1 c2
      dsimp only at c1 c2
      have hact := (actsFault_ok HF.out).1 c (by rw [HL.out]; omega)
      rw [hx] at hact
      obtain ⟨hk, y0, y1⟩ := hact
      dsimp only at hk y0 y1
      obtain ⟨y, rfl⟩ : ∃ y : Nat, x1 = y := ⟨x1.toNat, by omega⟩
      have hyn : y < n' := by omega
      obtain rfl := h'.ptr (by omega)
      have cx := h'.cell y hyn
      have hvb := HX.out (y : Int)
      have hsb := now_bd HX.out (l := l) c
      rw [← hs.out] at hsb
      have hxv : szOf xs (y : Int) = ix xs y := by unfold szOf; rw [Int.toNat_natCast]
      rw [hxv] at hvb
      obtain ⟨v, hv⟩ : ∃ v, ix xs y = v := ⟨_, rfl⟩
      rw [hv] at cx hvb
      obtain ⟨v0, v1⟩ := hvb
      obtain ⟨s0, s1⟩ := hsb
      have h2 : (0 : Int) ≤ (c : Int) := by omega
      have h3 : (c : Int) < (n : Int) := by omega
      have HNX : Hid (nowTo (szOf xs) l (c + 1) = s + (if x0 = 1 then v else - v)) := Lib.hid (by rw [nowTo, hx, ← hs.out]; dsimp only; rw [hxv, hv])
      have HC := Lib.hid hx
      clear hxv hv hx
      by_cases k1 : x0 = 1
      · subst k1
        have HN : Hid (nowTo (szOf xs) l (c + 1) = s + v) := Lib.hid (by rw [HNX.out, if_pos rfl])
        clear hk HNX
        go_wp2
        go_loopw [7, 9] (fun u j wr => ∃ (j' q : Nat), j' ≤ c ∧ u = .int .i64 (s + v) ∧ j = .int .i64 j' ∧ wr = w.drewN q) (fun _ j _ => c - (intOf j).toNat)
        case atStart => exact ⟨0, q, Nat.zero_le _, rfl, rfl, rfl⟩
        case round =>
          obtain ⟨j, q2, hj, rfl, rfl, rfl⟩ := hrel
          by_cases hlt2 : j < c
          · obtain ⟨d1, d2⟩ := act_cells h (show j < n by omega)
            obtain ⟨⟨z0, z1⟩, hz⟩ : ∃ x, ax l j = x := ⟨_, rfl⟩
            rw [hz] at d1 d2
            dsimp only at d1 d2
            have h4 : (0 : Int) ≤ (j : Int) := by omega
            have h5 : (j : Int) < (n : Int) := by omega
            clear hz
            by_cases g1 : z1 = (y : Int)
            · have e1 : (z1 == (y : Int)) = true := by simp [g1]
              clear g1
              go_wp2
              go_quiet (fail)
              go_wp2
              go_roundw
              case rel => exact ⟨j + 1, _, by omega, rfl, by go_num, (by first | rfl | exact World.drewN_drewN _ _ _)⟩
              case measure => simp [intOf]; omega
            · have e1 : (z1 == (y : Int)) = false := by simp [g1]
              clear g1
              go_wp2
              go_quiet (fail)
              go_wp2
              go_roundw
              case rel => exact ⟨j + 1, _, by omega, rfl, by go_num, (by first | rfl | exact World.drewN_drewN _ _ _)⟩
              case measure => simp [intOf]; omega
          · obtain rfl : c = j := by omega
            go_wp2
            go_roundw
            case rel => exact ⟨c + 1, _, s + v, by omega, rfl, by go_num, rfl, Lib.hid HN.out.symm⟩
            case measure => simp [intOf]; omega
      · obtain rfl : x0 = 2 := by omega
        have HN : Hid (nowTo (szOf xs) l (c + 1) = s - v) := Lib.hid (by rw [HNX.out, if_neg (by decide)]; omega)
        obtain ⟨f, hfc, hfi⟩ := fwd_at HF.out (c := c) (by rw [HL.out]; omega) (by rw [HC.out])
        rw [HC.out] at hfi
        have HFI := Lib.hid hfi
        clear hk HNX k1 hfi
        go_wp2
        go_loopw [7, 9] (fun u j wr => ∃ (j' q : Nat) (r : Int), j' ≤ c ∧ u = .int .i64 r ∧ j = .int .i64 j' ∧ wr = w.drewN q ∧ Hid (r = if f < j' then s - v else s)) (fun _ j _ => c - (intOf j).toNat)
        case atStart => exact ⟨0, q, s, Nat.zero_le _, rfl, rfl, rfl, Lib.hid (by rw [if_neg (by omega)])⟩
        case round =>
          obtain ⟨j, q2, r, hj, rfl, rfl, rfl, hr⟩ := hrel
          by_cases hlt2 : j < c
          · obtain ⟨d1, d2⟩ := act_cells h (show j < n by omega)
            obtain ⟨⟨z0, z1⟩, hz⟩ : ∃ x, ax l j = x := ⟨_, rfl⟩
            have hji := HFI.out j hlt2
            rw [hz] at d1 d2 hji
            dsimp only at d1 d2 hji
            have h4 : (0 : Int) ≤ (j : Int) := by omega
            have h5 : (j : Int) < (n : Int) := by omega
            clear hz
            by_cases g1 : j = f
            · have e1 : (z1 == (y : Int)) = true := by simp [hji.2 g1]
              obtain rfl : r = s := by rw [hr.out, if_neg (by omega)]
              have HR : Hid (r - v = if f < j + 1 then r - v else r) := Lib.hid (by rw [if_pos (by omega)])
              clear g1 hji hr
              go_wp2
              go_quiet (fail)
              go_wp2
              go_roundw
              case rel => exact ⟨j + 1, _, r - v, by omega, rfl, by go_num, (by first | rfl | exact World.drewN_drewN _ _ _), HR⟩
              case measure => simp [intOf]; omega
            · have e1 : (z1 == (y : Int)) = false := by simp; exact fun e => g1 (hji.1 e)
              have HR : Hid (r = if f < j + 1 then s - v else s) := Lib.hid (by
                rw [hr.out]
                by_cases g2 : f < j
                · rw [if_pos g2, if_pos (by omega)]
                · rw [if_neg g2, if_neg (by omega)])
              clear g1 hji hr
              go_wp2
              go_quiet (fail)
              go_wp2
              go_roundw
              case rel => exact ⟨j + 1, _, r, by omega, rfl, by go_num, (by first | rfl | exact World.drewN_drewN _ _ _), HR⟩
              case measure => simp [intOf]; omega
          · obtain rfl : c = j := by omega
            have HR : Hid (r = nowTo (szOf xs) l (c + 1)) := Lib.hid (by rw [HN.out, hr.out, if_pos hfc])
            go_wp2
            go_roundw
            case rel => exact ⟨c + 1, _, r, by omega, rfl, by go_num, rfl, HR⟩
            case measure => simp [intOf]; omega
    · obtain rfl : c = i + 1 := by omega
      have e0 : (((i + 1 : Nat) : Int) ≤ (i : Int)) = False := by simp; omega
      have HS := hs
      go_wp2
      go_ret
      exact ⟨by rw [← HS.out]; rfl, q, rfl⟩
end Go.Proofs.YtjaepdkeldgikaaDoor
