/- Plain: messages as bytes, and back. No program in sight. -/
import Derived.Test.YtgknjikjjklaiaaDoorPWire2
set_option linter.unusedVariables false
set_option linter.unusedSimpArgs false
namespace Gal
/-! ### reading a beginning -/
theorem sevGo_take {bs : List Nat} {at0 k : Nat} : ∀ {f i x : Nat}, sevGo (bs.take k) at0 f i x = (match sevGo bs at0 f i x with | some (y, e) => if e ≤ k then some (y, e) else none | none => none)
  | 0, i, x => rfl
  | f + 1, i, x => by
    rw [sevGo, sevGo]
    by_cases hk : at0 + i < k
    · rw [List.getElem?_take_of_lt hk]
      cases hb : bs[at0 + i]? with
      | none => rfl
      | some d =>
        dsimp only
        by_cases h1 : d < 128
        · rw [if_pos h1, if_pos h1]
          by_cases h2 : d = 0 ∧ 0 < i
          · rw [if_pos h2]
          · rw [if_neg h2]
            dsimp only
            rw [if_pos (by omega)]
        · rw [if_neg h1, if_neg h1]
          exact sevGo_take
    · rw [List.getElem?_eq_none (by rw [List.length_take]; omega)]
      dsimp only
      cases hb : bs[at0 + i]? with
      | none => rfl
      | some d =>
        dsimp only
        by_cases h1 : d < 128
        · rw [if_pos h1]
          by_cases h2 : d = 0 ∧ 0 < i
          · rw [if_pos h2]
          · rw [if_neg h2]
            dsimp only
            rw [if_neg (by omega)]
        · rw [if_neg h1]
          cases hs : sevGo bs at0 f (i + 1) (x + d % 128 * 2 ^ (7 * i)) with
          | none => rfl
          | some r =>
            obtain ⟨y, e⟩ := r
            have := (sevGo_end hs).1
            dsimp only
            rw [if_neg (by omega)]
theorem sevAt_take {bs : List Nat} {at0 k : Nat} : sevAt (bs.take k) at0 = (match sevAt bs at0 with | some (y, e) => if e ≤ k then some (y, e) else none | none => none) := sevGo_take
/-- so many numbers, one behind the other -/
def readN (bs : List Nat) : Nat → Nat → Option (List Nat × Nat)
  | 0, at0 => some ([], at0)
  | n + 1, at0 => match sevAt bs at0 with
    | none => none
    | some (y, e) => match readN bs n e with
      | none => none
      | some (l, e2) => some (y :: l, e2)
theorem readN_end {bs : List Nat} : ∀ {n at0 : Nat} {l : List Nat} {e : Nat}, readN bs n at0 = some (l, e) → l.length = n ∧ at0 ≤ e ∧ (0 < n → at0 < e ∧ e ≤ bs.length) ∧ e ≤ at0 + 9 * n ∧ ∀ x ∈ l, x < 2 ^ 63
  | 0, at0, l, e, h => by
    simp only [readN, Option.some.injEq, Prod.mk.injEq] at h
    obtain ⟨rfl, rfl⟩ := h
    exact ⟨rfl, Nat.le_refl _, fun h => absurd h (Nat.lt_irrefl _), by omega, fun x hx => nomatch hx⟩
  | n + 1, at0, l, e, h => by
    rw [readN] at h
    cases hs : sevAt bs at0 with
    | none => rw [hs] at h; cases h
    | some r =>
      obtain ⟨y, e1⟩ := r
      rw [hs] at h
      dsimp only at h
      cases hr : readN bs n e1 with
      | none => rw [hr] at h; cases h
      | some r =>
        obtain ⟨l1, e2⟩ := r
        rw [hr] at h
        simp only [Option.some.injEq, Prod.mk.injEq] at h
        obtain ⟨rfl, rfl⟩ := h
        obtain ⟨h1, h2, h3, h4, h5⟩ := readN_end hr
        have h6 := sevAt_end hs
        have h7 := sevAt_lt hs
        refine ⟨by rw [List.length_cons, h1], by omega, fun _ => ⟨by omega, ?_⟩, by omega, fun x hx => ?_⟩
        · rcases Nat.eq_zero_or_pos n with h0 | h0
          · subst h0
            simp only [readN, Option.some.injEq, Prod.mk.injEq] at hr
            omega
          · exact (h3 h0).2
        · rcases List.mem_cons.1 hx with rfl | hx
          · exact h7
          · exact h5 x hx
theorem readN_take {bs : List Nat} {k : Nat} : ∀ {n at0 : Nat}, readN (bs.take k) n at0 = (match readN bs n at0 with | some (l, e) => if n = 0 ∨ e ≤ k then some (l, e) else none | none => none)
  | 0, at0 => by simp [readN]
  | n + 1, at0 => by
    rw [readN, readN, sevAt_take]
    cases hs : sevAt bs at0 with
    | none => rfl
    | some r =>
      obtain ⟨y, e⟩ := r
      dsimp only
      by_cases he : e ≤ k
      · rw [if_pos he]
        dsimp only
        rw [readN_take]
        cases hr : readN bs n e with
        | none => rfl
        | some r =>
          obtain ⟨l, e2⟩ := r
          dsimp only
          have h2 := (readN_end hr)
          by_cases h1 : n = 0 ∨ e2 ≤ k
          · rw [if_pos h1]
            dsimp only
            rw [if_pos]
            rcases h1 with h1 | h1
            · subst h1
              simp only [readN, Option.some.injEq, Prod.mk.injEq] at hr
              omega
            · exact Or.inr h1
          · rw [if_neg h1]
            dsimp only
            rw [if_neg (by omega)]
      · rw [if_neg he]
        dsimp only
        cases hr : readN bs n e with
        | none => rfl
        | some r =>
          obtain ⟨l, e2⟩ := r
          dsimp only
          have h2 := (readN_end hr).2.1
          rw [if_neg (by omega)]
theorem readN_write : ∀ {l pre post : List Nat}, (∀ x ∈ l, x < 9223372036854775808) → readN (pre ++ l.flatMap seven ++ post) l.length pre.length = some (l, pre.length + (l.flatMap seven).length)
  | [], pre, post, _ => by simp [readN]
  | x :: l, pre, post, h => by
    have e1 : pre ++ (x :: l).flatMap seven ++ post = pre ++ seven x ++ (l.flatMap seven ++ post) := by simp
    rw [List.length_cons, readN, e1, sevAt_write (h x (by simp))]
    dsimp only
    have e2 : pre ++ seven x ++ (l.flatMap seven ++ post) = (pre ++ seven x) ++ l.flatMap seven ++ post := by simp
    rw [e2, show pre.length + (seven x).length = (pre ++ seven x).length by simp, readN_write fun y hy => h y (by simp [hy])]
    simp
    omega
/-! ### messages -/
structure MsgD where
  kind : Int
  micro : Int
  body : Mat
/-- what is wrong with a message -/
def msgFault (m : MsgD) : Int := if m.kind < 1 ∨ 2 < m.kind ∨ m.micro < 0 ∨ 11 < m.micro then 1 else matFault m.body.rows m.body.cols m.body.cells
def msgNums (m : MsgD) : List Nat := [m.kind.toNat, m.micro.toNat, m.body.rows.toNat, m.body.cols.toNat] ++ m.body.cells.map zigOf
/-- two bytes more: the sums -/
def withSums (l : List Nat) : List Nat := l ++ [(prgSums l).1, (prgSums l).2]
def msgBytes (m : MsgD) : List Nat := withSums ((msgNums m).flatMap seven)
def msgOf (k mi r c : Nat) (cells : List Nat) : MsgD := ⟨k, mi, ⟨r, c, cells.map zagOf⟩⟩
/-- bytes as a message -/
def msgRead (bs : List Nat) : Option (MsgD × Nat) :=
  match readN bs 4 0 with
  | none => none
  | some (l, at1) =>
    if 24 < l[2]?.getD 0 ∨ 12 < l[3]?.getD 0 then none else
    match readN bs (l[2]?.getD 0 * l[3]?.getD 0) at1 with
    | none => none
    | some (cells, at2) =>
      if msgFault (msgOf (l[0]?.getD 0) (l[1]?.getD 0) (l[2]?.getD 0) (l[3]?.getD 0) cells) ≠ 0 ∨ bs.length < at2 + 2 then none
      else if [(prgSums (bs.take at2)).1, (prgSums (bs.take at2)).2] = [bs[at2]?.getD 0, bs[at2 + 1]?.getD 0] then some (msgOf (l[0]?.getD 0) (l[1]?.getD 0) (l[2]?.getD 0) (l[3]?.getD 0) cells, at2 + 2) else none
theorem msgFault_ok {m : MsgD} (h : msgFault m = 0) : (1 ≤ m.kind ∧ m.kind ≤ 2) ∧ (0 ≤ m.micro ∧ m.micro ≤ 11) ∧ matFault m.body.rows m.body.cols m.body.cells = 0 := by
  unfold msgFault at h
  by_cases h1 : m.kind < 1 ∨ 2 < m.kind ∨ m.micro < 0 ∨ 11 < m.micro
  · rw [if_pos h1] at h; exact absurd h (by decide)
  · rw [if_neg h1] at h
    exact ⟨by omega, by omega, h⟩
theorem matFault_0 {r c : Int} {xs : List Int} (h : matFault r c xs = 0) : (0 ≤ r ∧ r ≤ 24) ∧ (0 ≤ c ∧ c ≤ 12) ∧ (xs.length : Int) = r * c ∧ inEnds xs := by
  unfold matFault at h
  by_cases h1 : r < 0 ∨ 24 < r ∨ c < 0 ∨ 12 < c
  · rw [if_pos h1] at h; exact absurd h (by decide)
  · rw [if_neg h1] at h
    by_cases h2 : (xs.length : Int) ≠ r * c
    · rw [if_pos h2] at h; exact absurd h (by decide)
    · rw [if_neg h2] at h
      by_cases h3 : inEnds xs
      · exact ⟨by omega, by omega, by omega, h3⟩
      · rw [if_neg h3] at h; exact absurd h (by decide)
theorem ends_mem {xs : List Int} (h : inEnds xs) : ∀ x ∈ xs, -2147483647 ≤ x ∧ x ≤ 2147483647 := fun x hx => by
  obtain ⟨j, hj, rfl⟩ := List.mem_iff_getElem.1 hx
  have h1 := h j hj
  have h2 : ix xs j = xs[j] := by simp [ix, hj]
  rw [h2] at h1
  have := clamp_lo xs[j]
  have := clamp_hi xs[j]
  omega
theorem zig_lt {x : Int} (h : -2147483647 ≤ x ∧ x ≤ 2147483647) : zigOf x < 4294967295 := by
  unfold zigOf
  split <;> omega
theorem msgNums_lt {m : MsgD} (h : msgFault m = 0) : ∀ x ∈ msgNums m, x < 4294967295 := fun x hx => by
  obtain ⟨h1, h2, h3⟩ := msgFault_ok h
  obtain ⟨h4, h5, h6, h7⟩ := matFault_0 h3
  unfold msgNums at hx
  rcases List.mem_append.1 hx with hx | hx
  · simp only [List.mem_cons, List.not_mem_nil, or_false] at hx
    omega
  · obtain ⟨y, hy, rfl⟩ := List.mem_map.1 hx
    exact zig_lt (ends_mem h7 y hy)
theorem prgSums_lt (l : List Nat) : (prgSums l).1 < 255 ∧ (prgSums l).2 < 255 := by
  rw [sums_same]
  omega
theorem readN_add {bs : List Nat} {n : Nat} : ∀ {m at0 : Nat}, readN bs (m + n) at0 = (match readN bs m at0 with | none => none | some (l, e) => match readN bs n e with | none => none | some (l2, e2) => some (l ++ l2, e2))
  | 0, at0 => by
    rw [Nat.zero_add, readN]
    dsimp only
    cases readN bs n at0 with
    | none => rfl
    | some r => obtain ⟨l, e⟩ := r; rfl
  | m + 1, at0 => by
    rw [show m + 1 + n = (m + n) + 1 by omega, readN, readN]
    cases sevAt bs at0 with
    | none => rfl
    | some r =>
      obtain ⟨y, e⟩ := r
      dsimp only
      rw [readN_add]
      cases readN bs m e with
      | none => rfl
      | some r =>
        obtain ⟨l, e1⟩ := r
        dsimp only
        cases readN bs n e1 with
        | none => rfl
        | some r => obtain ⟨l2, e2⟩ := r; rfl
/-- what was written is read, whatever stands behind it -/
theorem msg_back {m : MsgD} (h : msgFault m = 0) (more : List Nat) : msgRead (msgBytes m ++ more) = some (m, (msgBytes m).length) := by
  obtain ⟨h1, h2, h3⟩ := msgFault_ok h
  obtain ⟨h4, h5, h6, h7⟩ := matFault_0 h3
  obtain ⟨L, hL⟩ : ∃ L, (msgNums m).flatMap seven = L := ⟨_, rfl⟩
  obtain ⟨S, hS⟩ : ∃ S, [(prgSums L).1, (prgSums L).2] = S := ⟨_, rfl⟩
  have hb : msgBytes m = L ++ S := by unfold msgBytes withSums; rw [hL, hS]
  have hall : readN (msgBytes m ++ more) (msgNums m).length 0 = some (msgNums m, L.length) := by
    have := readN_write (l := msgNums m) (pre := []) (post := S ++ more) fun x hx => by have := msgNums_lt h x hx; omega
    rw [hL] at this
    simp only [List.nil_append, List.length_nil, Nat.zero_add] at this
    rw [hb, List.append_assoc]
    exact this
  have hlen : (msgNums m).length = 4 + m.body.cells.length := by unfold msgNums; simp; omega
  rw [hlen, readN_add] at hall
  unfold msgRead
  cases hr : readN (msgBytes m ++ more) 4 0 with
  | none => rw [hr] at hall; cases hall
  | some r =>
    obtain ⟨l, e⟩ := r
    rw [hr] at hall
    dsimp only at hall ⊢
    have hl4 := (readN_end hr).1
    cases hc : readN (msgBytes m ++ more) m.body.cells.length e with
    | none => rw [hc] at hall; cases hall
    | some r =>
      obtain ⟨cs, e2⟩ := r
      rw [hc] at hall
      simp only [Option.some.injEq, Prod.mk.injEq] at hall
      obtain ⟨ha, rfl⟩ := hall
      have hll : l = [m.kind.toNat, m.micro.toNat, m.body.rows.toNat, m.body.cols.toNat] ∧ cs = m.body.cells.map zigOf := by
        unfold msgNums at ha
        exact List.append_inj ha (by rw [hl4]; rfl)
      obtain ⟨rfl, rfl⟩ := hll
      have hrc : m.body.rows.toNat * m.body.cols.toNat = m.body.cells.length := by
        have : ((m.body.rows.toNat * m.body.cols.toNat : Nat) : Int) = (m.body.cells.length : Int) := by
          rw [h6, Int.natCast_mul, Int.toNat_of_nonneg h4.1, Int.toNat_of_nonneg h5.1]
        omega
      simp only [List.getElem?_cons_zero, List.getElem?_cons_succ, Option.getD_some]
      rw [if_neg (by omega), hrc, hc]
      dsimp only
      have hm : msgOf m.kind.toNat m.micro.toNat m.body.rows.toNat m.body.cols.toNat (m.body.cells.map zigOf) = m := by
        unfold msgOf
        obtain ⟨k, mi, ⟨r, c, xs⟩⟩ := m
        dsimp only at h1 h2 h4 h5 ⊢
        rw [Int.toNat_of_nonneg (by omega), Int.toNat_of_nonneg h2.1, Int.toNat_of_nonneg h4.1, Int.toNat_of_nonneg h5.1, List.map_map]
        have : xs.map (zagOf ∘ zigOf) = xs := by
          rw [List.map_congr_left (f := zagOf ∘ zigOf) (g := id) fun x _ => zag_zig x, List.map_id]
        rw [this]
      rw [hm]
      have hSl : S.length = 2 := by rw [← hS]; rfl
      rw [if_neg (by rw [h, hb, List.length_append, List.length_append, hSl]; omega)]
      have e1 : (msgBytes m ++ more).take L.length = L := by rw [hb, List.append_assoc, List.take_left]
      have e2 : (msgBytes m ++ more)[L.length]?.getD 0 = (prgSums L).1 ∧ (msgBytes m ++ more)[L.length + 1]?.getD 0 = (prgSums L).2 := by
        rw [hb, ← hS]
        constructor
        · rw [List.append_assoc, List.getElem?_append_right (Nat.le_refl _)]; simp
        · rw [List.append_assoc, List.getElem?_append_right (by omega)]; simp
      rw [e1, e2.1, e2.2, if_pos rfl, hb, List.length_append, hSl]
/-- of a shorter beginning nothing is read -/
theorem msg_short {m : MsgD} (h : msgFault m = 0) {k : Nat} (hk : k < (msgBytes m).length) : msgRead ((msgBytes m).take k) = none := by
  have hb := msg_back h []
  rw [List.append_nil] at hb
  cases hr : msgRead ((msgBytes m).take k) with
  | none => rfl
  | some r =>
    exfalso
    unfold msgRead at hb hr
    rw [readN_take] at hr
    cases h4 : readN (msgBytes m) 4 0 with
    | none => rw [h4] at hb; cases hb
    | some r4 =>
      obtain ⟨l, e⟩ := r4
      rw [h4] at hb hr
      dsimp only at hb hr
      by_cases hek : 4 = 0 ∨ e ≤ k
      · rw [if_pos hek] at hr
        dsimp only at hr
        by_cases hbig : 24 < l[2]?.getD 0 ∨ 12 < l[3]?.getD 0
        · rw [if_pos hbig] at hb; cases hb
        · rw [if_neg hbig] at hb hr
          rw [readN_take] at hr
          cases hc : readN (msgBytes m) (l[2]?.getD 0 * l[3]?.getD 0) e with
          | none => rw [hc] at hb; cases hb
          | some rc =>
            obtain ⟨cs, e2⟩ := rc
            rw [hc] at hb hr
            dsimp only at hb hr
            by_cases he2 : l[2]?.getD 0 * l[3]?.getD 0 = 0 ∨ e2 ≤ k
            · rw [if_pos he2] at hr
              dsimp only at hr
              have hlen : (msgBytes m).length = e2 + 2 := by
                split at hb
                · cases hb
                · split at hb
                  · simp only [Option.some.injEq, Prod.mk.injEq] at hb
                    exact hb.2.symm
                  · cases hb
              rw [if_pos (Or.inr (by rw [List.length_take]; omega))] at hr
              cases hr
            · rw [if_neg he2] at hr
              cases hr
      · rw [if_neg hek] at hr
        cases hr
end Gal
