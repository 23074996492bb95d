/- A look into a map of the call's own: what stands there, and does anything? -/
import Derived.Test.YtjaepdkeldgikaaDoorMp
set_option linter.unusedVariables false
set_option linter.unusedSimpArgs false
set_option linter.unusedSectionVars false
namespace Gal
open Go Go.RowKit Go.Maps Go.ChangeMaps
section
variable {α : Type} [DecidableEq α]
/-- does anything stand at a key? -/
def hasK (l : List (α × Int)) (a : α) : Bool := l.any fun p => decide (p.1 = a)
theorem hasK_true {l : List (α × Int)} {a : α} : hasK l a = true ↔ ∃ p ∈ l, p.1 = a := by simp [hasK]
theorem hasK_yes {l : List (α × Int)} {a : α} (h : ∃ p ∈ l, p.1 = a) : hasK l a = true := hasK_true.2 h
theorem hasK_no {l : List (α × Int)} {a : α} (h : ∀ p ∈ l, p.1 ≠ a) : hasK l a = false := by
  cases he : hasK l a with
  | false => rfl
  | true => obtain ⟨p, hp, e⟩ := hasK_true.1 he; exact absurd e (h p hp)
variable {P : Program} {t k e : TypeId} {kf : α → Value} {w : World} {b : Nat} {l : List (α × Int)}
variable (K : Keyed P k) (ht : P.underlying t = some (.map k e)) (hz : ∀ w, (zeroValue e).run P w = .ok (.int .i64 0) w) (hkf : ∀ {x y : α}, kf x = kf y → x = y)
include K ht hz hkf
theorem MapIs.lookup_ok (h : MapIs P k kf w b l) {a : α} {kl : Lit} (hkey : keyOf P k (kf a) = some kl) : (Instr.lookup t (.map (some b)) (kf a) true).run P w = .ok (.tuple #[.int .i64 (look l a), .bool (hasK l a)]) w := by
  obtain ⟨es, c, hb, he, h1, h2, h3, h4⟩ := h
  rcases K.find w hkey es.toList (keys_of K ht hz hkf he h4) with ⟨g1, g2⟩ | ⟨j, e0, g1, g2, g3⟩
  · have hno := no_key K ht hz hkf he g2
    rw [look_none hno, hasK_no hno]
    simp [Instr.lookup, run_underlying ht, MapKept.run_getObj_map hb, K.check w _ hkey, g1, hz, Result.andThen]
  · obtain ⟨p, hp, q1, q2⟩ := mem_of_entry K ht hz hkf he g2
    have hpa := hkf (q1.symm.trans g3)
    rw [look_some h3 hp hpa, ← q2, hasK_yes ⟨p, hp, hpa⟩]
    simp [Instr.lookup, run_underlying ht, MapKept.run_getObj_map hb, K.check w _ hkey, g1, Result.andThen]
end
end Gal
