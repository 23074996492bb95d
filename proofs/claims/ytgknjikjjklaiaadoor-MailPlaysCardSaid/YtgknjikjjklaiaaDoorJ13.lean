/- Texts joined: JPlain. -/
import Derived.Test.YtgknjikjjklaiaaDoorJ02
section
section
set_option linter.unusedVariables false
set_option linter.unusedSimpArgs false
namespace Gal
def ints (l : List Nat) : List Int := l.map fun (n : Nat) => (n : Int)
end Gal
end
section
set_option linter.unusedVariables false
set_option linter.unusedSimpArgs false
set_option linter.unusedSectionVars false
namespace Gal
section
variable {l : Lay} {R K k : Nat} {xs : List Int} (hk : k ≤ R)
include hk
end
section
variable {R K : Nat} {xs : List Int} (hK1 : 1 ≤ K) (hf : (⟨R, K, xs⟩ : Mat).fault = 0)
include hK1 hf
end
end Gal
end
section
set_option linter.unusedVariables false
set_option linter.unusedSimpArgs false
namespace Gal
def Lay.none : Lay := ⟨0, Mat.none, Mat.none⟩
def lx (n : List Lay) (i : Nat) : Lay := n[i]?.getD Lay.none
end Gal
end
section
set_option linter.unusedVariables false
set_option linter.unusedSimpArgs false
namespace Gal
def gx (ds : List Grd) (i : Nat) : Grd := ds[i]?.getD Grd.none
def likeShape (a b : Mat) : Prop := a.rows = b.rows ∧ a.cols = b.cols
instance (a b : Mat) : Decidable (likeShape a b) := by unfold likeShape; exact inferInstance
def fitsFault (l : Lay) (v d : Grd) : Int :=
 if l.fault ≠ 0 then l.fault else if v.W.fault ≠ 0 then v.W.fault else if v.B.fault ≠ 0 then v.B.fault else if d.W.fault ≠ 0 then d.W.fault else if d.B.fault ≠ 0 then d.B.fault else
  if likeShape v.W l.W ∧ likeShape v.B l.B ∧ likeShape d.W l.W ∧ likeShape d.B l.B then 0 else 2
def stepFaultTo (ls : List Lay) (vs ds : List Grd) : Nat → Int
 | 0 => 0
 | k + 1 => if stepFaultTo ls vs ds k = 0 then fitsFault (lx ls k) (gx vs k) (gx ds k) else stepFaultTo ls vs ds k
def stepFault (ls : List Lay) (vs ds : List Grd) (ln kp : Int) : Int :=
 if ln < 0 ∨ 256 < ln ∨ kp < 0 ∨ 256 < kp then 1 else if 12 < ls.length then 3 else if vs.length ≠ ls.length ∨ ds.length ≠ ls.length then 2 else stepFaultTo ls vs ds ls.length
end Gal
end
section
set_option linter.unusedVariables false
set_option linter.unusedSimpArgs false
namespace Gal
section
variable (ls : List Lay) (ss : List Mat) (g : Mat) (n : Nat)
def bM : Nat → Mat
 | 0 => g
 | k + 1 => (lx ls (n - 1 - k)).back (mx ss (n - 1 - k)) (bM k)
end
section
variable {ls : List Lay} {ss : List Mat} {g : Mat} {n k m : Nat}
end
section
variable (ls : List Lay) (ss : List Mat) (g : Mat)
end
section
variable {ls : List Lay} {ss : List Mat} {g : Mat}
end
end Gal
end
section
set_option linter.unusedVariables false
set_option linter.unusedSimpArgs false
namespace Gal
section
variable {ps qs : List Lay} {x g : Mat} {n m : Nat}
end
end Gal
end
section
set_option linter.unusedVariables false
set_option linter.unusedSimpArgs false
namespace Gal
end Gal
end
section
set_option linter.unusedVariables false
set_option linter.unusedSimpArgs false
namespace Gal
section
variable {ls : List Lay} {vs ds : List Grd} {ln kp : Int} (h : stepFault ls vs ds ln kp = 0)
include h
end
end Gal
end
section
set_option linter.unusedVariables false
set_option linter.unusedSimpArgs false
namespace Gal
section
variable {ls : List Lay} {x g : Mat}
end
end Gal
end
section
set_option linter.unusedVariables false
set_option linter.unusedSimpArgs false
namespace Gal
structure Bat where
 I : Mat
 W : Mat
def Bat.fault (b : Bat) : Int := if b.I.fault ≠ 0 then b.I.fault else if b.W.fault ≠ 0 then b.W.fault else if b.I.rows ≠ b.W.rows ∨ b.I.rows < 1 then 2 else 0
def bx (ds : List Bat) (i : Nat) : Bat := ds[i]?.getD ⟨Mat.none, Mat.none⟩
end Gal
end
section
set_option linter.unusedVariables false
set_option linter.unusedSimpArgs false
namespace Gal
structure Sta where
 N : List Lay
 V : List Grd
 steps : Int
def stPart (l : Lay) (v : Grd) : Int := if l.fault ≠ 0 then l.fault else if v.W.fault ≠ 0 then v.W.fault else if v.B.fault ≠ 0 then v.B.fault else if likeShape v.W l.W ∧ likeShape v.B l.B then 0 else 2
def stTo (ls : List Lay) (vs : List Grd) : Nat → Int
 | 0 => 0
 | k + 1 => if stTo ls vs k = 0 then stPart (lx ls k) (gx vs k) else stTo ls vs k
def Sta.fault (s : Sta) : Int := if 12 < s.N.length then 3 else if s.V.length ≠ s.N.length then 2 else if s.steps < 0 ∨ 1000000000 < s.steps then 1 else stTo s.N s.V s.N.length
section
variable (N : List Lay) (b : Bat) (S : List Nat)
end
end Gal
end
end
