/- Plain: plans, and what is wrong with one stage's acts. No program in sight. -/
import Derived.Test.YtjaepdkeldgikaaDoorBaseP
set_option linter.unusedVariables false
set_option linter.unusedSimpArgs false
namespace Gal
/-- an act: its kind (1: forward, 2: back), its part -/
abbrev ActD := Int × Int
def ax (l : List ActD) (i : Nat) : ActD := l[i]?.getD (0, 0)
theorem ax_get {l : List ActD} {i : Nat} (h : i < l.length) : l[i]? = some (ax l i) := by unfold ax; rw [List.getElem?_eq_getElem h]; rfl
def actOk (M : Int) (a : ActD) : Prop := (a.1 = 1 ∨ a.1 = 2) ∧ 0 ≤ a.2 ∧ a.2 < M
instance (M : Int) (a : ActD) : Decidable (actOk M a) := by unfold actOk; exact inferInstance
/-- ahead of going back there stands the way there -/
def ordAt (l : List ActD) (i : Nat) : Prop := (ax l i).1 = 2 → (1, (ax l i).2) ∈ l.take (i + 1)
instance (l : List ActD) (i : Nat) : Decidable (ordAt l i) := by unfold ordAt; exact inferInstance
def okTo (M : Int) (l : List ActD) (n : Nat) : Prop := ∀ i, i < n → actOk M (ax l i)
instance (M : Int) (l : List ActD) (n : Nat) : Decidable (okTo M l n) := by unfold okTo; exact inferInstance
def ordTo (l : List ActD) (n : Nat) : Prop := ∀ i, i < n → ordAt l i
instance (l : List ActD) (n : Nat) : Decidable (ordTo l n) := by unfold ordTo; exact inferInstance
/-- what is wrong with one stage's acts -/
def actsFault (M : Int) (l : List ActD) : Int :=
  if ¬ okTo M l l.length then 1 else if ¬ l.Nodup then 8 else if ¬ ((l.length : Int) = 2 * M) then 2 else if ¬ ordTo l l.length then 5 else 0
section
variable {M : Int} {l : List ActD}
theorem actsFault_1 {t : Nat} (ht : t < l.length) (h : ¬ actOk M (ax l t)) : actsFault M l = 1 := by unfold actsFault; exact if_pos fun h1 => h (h1 t ht)
theorem actsFault_8 (h1 : okTo M l l.length) (h2 : ¬ l.Nodup) : actsFault M l = 8 := by unfold actsFault; rw [if_neg (by simpa using h1), if_pos h2]
theorem actsFault_2 (h1 : okTo M l l.length) (h2 : l.Nodup) (h3 : ¬ ((l.length : Int) = 2 * M)) : actsFault M l = 2 := by unfold actsFault; rw [if_neg (by simpa using h1), if_neg (by simpa using h2), if_pos h3]
theorem actsFault_5 {t : Nat} (h1 : okTo M l l.length) (h2 : l.Nodup) (h3 : (l.length : Int) = 2 * M) (ht : t < l.length) (h4 : ¬ ordAt l t) : actsFault M l = 5 := by
  unfold actsFault; rw [if_neg (by simpa using h1), if_neg (by simpa using h2), if_neg (by simpa using h3), if_pos fun h5 => h4 (h5 t ht)]
theorem actsFault_0 (h1 : okTo M l l.length) (h2 : l.Nodup) (h3 : (l.length : Int) = 2 * M) (h4 : ordTo l l.length) : actsFault M l = 0 := by
  unfold actsFault; rw [if_neg (by simpa using h1), if_neg (by simpa using h2), if_neg (by simpa using h3), if_neg (by simpa using h4)]
theorem take_ax {t : Nat} (h : t < l.length) : l.take (t + 1) = l.take t ++ [ax l t] := by
  rw [List.take_succ_eq_append_getElem h]
  have := ax_get h
  rw [List.getElem?_eq_getElem h] at this
  simp only [Option.some.injEq] at this
  rw [this]
theorem nodup_next {t : Nat} (h : t < l.length) (h1 : (l.take t).Nodup) (h2 : ax l t ∉ l.take t) : (l.take (t + 1)).Nodup := by
  rw [take_ax h]
  refine List.nodup_append.2 ⟨h1, by simp, fun x hx y hy e1 => ?_⟩
  simp only [List.mem_singleton] at hy
  subst e1; subst hy
  exact h2 hx
theorem nodup_no {t : Nat} (h : t < l.length) (h2 : ax l t ∈ l.take t) : ¬ l.Nodup := fun hn => by
  have h3 : (l.take (t + 1)).Nodup := hn.sublist (List.take_sublist _ _)
  rw [take_ax h] at h3
  exact (List.nodup_append.1 h3).2.2 _ h2 _ (List.mem_singleton.2 rfl) rfl
/-- acts that were met, as a map has them -/
def metOf (l : List ActD) : List (ActD × Int) := l.map fun a => (a, 1)
theorem metOf_snoc (l : List ActD) (a : ActD) : metOf (l ++ [a]) = metOf l ++ [(a, 1)] := by simp [metOf]
theorem met_not {l : List ActD} {a : ActD} (h : a ∉ l) : ∀ p ∈ metOf l, p.1 ≠ a := fun p hp e => by
  obtain ⟨x, hx, rfl⟩ := List.mem_map.1 hp
  exact h (e ▸ hx)
theorem met_is {l : List ActD} {a : ActD} (h : a ∈ l) : ∃ p ∈ metOf l, p.1 = a := ⟨(a, 1), List.mem_map.2 ⟨a, h, rfl⟩, rfl⟩
theorem small_act {a : ActD} (h : actOk 12 a) : ∃ i j : Nat, i < 2 ∧ j < 12 ∧ a = ((i : Int) + 1, (j : Int)) := by
  obtain ⟨h1, h2, h3⟩ := h
  refine ⟨(a.1 - 1).toNat, a.2.toNat, by omega, by omega, Prod.ext ?_ ?_⟩ <;> (dsimp only; omega)
theorem met_keys (l : List ActD) : (metOf l).map (·.1) = l := by unfold metOf; rw [List.map_map]; exact List.map_id l
end
end Gal
