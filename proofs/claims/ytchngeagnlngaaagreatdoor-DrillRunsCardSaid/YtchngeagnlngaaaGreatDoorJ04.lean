/- Texts joined: PDrill. -/
import Derived.Test.YtchngeagnlngaaaGreatDoorJ03
set_option linter.unusedVariables false
set_option linter.unusedSimpArgs false
section
namespace Gal
def fallOne (F:List Int) (k:Nat):Int:=if ix F k<1 then 1 else if 0<k∧ix F k≤ix F (k - 1) then 5 else 0
def fallsTo (F:List Int):Nat→Int
 | 0=>0
 | k+1=>if fallsTo F k=0 then fallOne F k else fallsTo F k
theorem fallsTo_next {F:List Int} {k:Nat} (h:fallsTo F k=0):fallsTo F (k+1)=fallOne F k:=if_pos h
theorem fallsTo_stays {F:List Int} {k m:Nat} (h:k≤m) (hk:fallsTo F k≠0):fallsTo F m=fallsTo F k:=by
  induction m with
  | zero => obtain rfl:k=0:=by omega
            rfl
  | succ m ih=>
    rcases Nat.lt_or_ge k (m+1) with h1|h1
    · have e:=ih (by omega)
      show (if fallsTo F m=0 then _ else _)=_
      rw [if_neg (by rw [e];exact hk),e]
    · obtain rfl:k=m+1:=by omega
      rfl
theorem fallsTo_stop {F:List Int} {k n:Nat} (hk:k<n) (hz:fallsTo F k=0) (hf:fallOne F k≠0):fallsTo F n=fallOne F k:=by
 rw [fallsTo_stays (k:=k+1) (by omega) (by rw [fallsTo_next hz];exact hf),fallsTo_next hz]
theorem fallsTo_less {F:List Int} {k m:Nat} (hk:k≤m) (h:fallsTo F m=0):fallsTo F k=0:=Classical.byContradiction fun hne=>hne ((fallsTo_stays hk hne).symm.trans h)
theorem falls_rise {F:List Int} (h:fallsTo F F.length=0):∀ k,k+1<F.length→ix F k<ix F (k+1):=fun k hk=>by
 have h1:=fallsTo_less (show k+2≤F.length by omega) h
 rw [fallsTo_next (fallsTo_less (Nat.le_succ _) h1)] at h1
 unfold fallOne at h1
 by_cases h2:ix F (k+1)<1
 ·rw [if_pos h2] at h1;exact absurd h1 (by decide)
 ·rw [if_neg h2] at h1
  by_cases h3:0<k+1∧ix F (k+1)≤ix F (k+1 - 1)
  ·rw [if_pos h3] at h1;exact absurd h1 (by decide)
  ·have:¬ ix F (k+1)≤ix F (k+1 - 1):=fun q=>h3 ⟨by omega,q⟩
   rw [Nat.add_sub_cancel] at this
   omega
theorem falls_less {F:List Int} (h:fallsTo F F.length=0) {i j:Nat} (hij:i<j) (hj:j<F.length):ix F i<ix F j:=by
 induction j with
 | zero=>omega
 | succ j ih=>
  have h1:=falls_rise h j hj
  rcases Nat.lt_or_ge i j with h2|h2
  ·have:=ih h2 (by omega);omega
  ·obtain rfl:i=j:=by omega
   exact h1
theorem falls_new {F:List Int} (h:fallsTo F F.length=0) {t:Nat} (ht:t<F.length):∀ x ∈ F.take t,x≠ix F t:=fun x hx e=>by
 obtain ⟨i,hi,rfl⟩:=List.mem_iff_getElem.1 hx
 rw [List.length_take] at hi
 have h1:=falls_less h (show i<t by omega) ht
 have h2:ix F i=(F.take t)[i]:=by
  rw [List.getElem_take]
  simp [ix,show i<F.length by omega]
 omega
def drillFault (s:Sta) (L:Nat) (every:Int) (F:List Int):Int:=
 if 20<L then 3 else if every<1∨20<every then 1 else if 20<F.length then 3 else if fallsTo F F.length≠0 then fallsTo F F.length else if s.fault≠0 then s.fault else if 999999980<s.steps then 1 else 0
theorem drillFault_ok {s:Sta} {L:Nat} {every:Int} {F:List Int} (h:drillFault s L every F=0):L≤20∧1≤every∧every≤20∧F.length≤20∧fallsTo F F.length=0∧s.fault=0∧s.steps≤999999980:=by
 unfold drillFault at h
 by_cases h1:20<L
 ·rw [if_pos h1] at h;exact absurd h (by decide)
 rw [if_neg h1] at h
 by_cases h2:every<1∨20<every
 ·rw [if_pos h2] at h;exact absurd h (by decide)
 rw [if_neg h2] at h
 by_cases h3:20<F.length
 ·rw [if_pos h3] at h;exact absurd h (by decide)
 rw [if_neg h3] at h
 by_cases h4:fallsTo F F.length≠0
 ·rw [if_pos h4] at h;exact absurd h h4
 rw [if_neg h4] at h
 by_cases h5:s.fault≠0
 ·rw [if_pos h5] at h;exact absurd h h5
 rw [if_neg h5] at h
 by_cases h6:999999980<s.steps
 ·rw [if_pos h6] at h;exact absurd h (by decide)
 refine ⟨by omega,by omega,by omega,by omega,?_,?_,by omega⟩
 ·exact Classical.byContradiction h4
 ·exact Classical.byContradiction h5
def fellAt (F:List Int) (t:Nat):Bool:=F.any fun f=>decide (f=(t:Int))
theorem fellAt_true {F:List Int} {t:Nat}:fellAt F t=true ↔ (t:Int) ∈ F:=by simp [fellAt]
def atK (E:Nat) (F:List Int):Nat→Nat
 | 0=>0
 | k+1=>if fellAt F (k+1)=true then atK E F k / E*E else atK E F k+1
theorem atK_fell {E:Nat} {F:List Int} {k:Nat} (h:fellAt F (k+1)=true):atK E F (k+1)=atK E F k / E*E:=if_pos h
theorem atK_went {E:Nat} {F:List Int} {k:Nat} (h:¬ fellAt F (k+1)=true):atK E F (k+1)=atK E F k+1:=if_neg h
def cntK (F:List Int) (k:Nat):Nat:=F.countP fun f=>decide (f≤(k:Int))
theorem countP_less {p q:Int→Bool} (hpq:∀ x,p x=true→q x=true):∀ {l:List Int},(∃ x ∈ l,q x=true∧¬ p x=true)→l.countP p+1≤l.countP q
 | [],h=>by obtain ⟨x,hx,_⟩:=h;cases hx
 | y :: l,h=>by
  have hle:l.countP p≤l.countP q:=List.countP_mono_left fun x _ hx=>hpq x hx
  rw [List.countP_cons,List.countP_cons]
  by_cases hy:q y=true∧¬ p y=true
  ·rw [if_pos hy.1,if_neg hy.2];omega
  ·have ih:l.countP p+1≤l.countP q:=countP_less hpq (by
    obtain ⟨x,hx,h1⟩:=h
    rcases List.mem_cons.1 hx with rfl|hx
    ·exact absurd h1 hy
    ·exact ⟨x,hx,h1⟩)
   by_cases hp:p y=true
   ·rw [if_pos hp,if_pos (hpq y hp)];omega
   ·rw [if_neg hp];omega
theorem tries_le {E:Nat} (hE:1≤E) (F:List Int):∀ k,k≤atK E F k+E*cntK F k
 | 0=>Nat.zero_le _
 | k+1=>by
  have ih:=tries_le hE F k
  by_cases h:fellAt F (k+1)=true
  ·rw [atK_fell h]
   have h1:cntK F k+1≤cntK F (k+1):=countP_less (fun x hx=>by simp only [decide_eq_true_eq] at hx ⊢;omega) ⟨((k+1:Nat):Int),fellAt_true.1 h,by simp,by simp only [decide_eq_true_eq];omega⟩
   have h2:=Nat.div_add_mod (atK E F k) E
   have h3:=Nat.mod_lt (atK E F k) (show E > 0 by omega)
   have h4:E*(cntK F k+1)≤E*cntK F (k+1):=Nat.mul_le_mul_left E h1
   rw [Nat.mul_succ] at h4
   rw [Nat.mul_comm (atK E F k / E) E]
   omega
  ·rw [atK_went h]
   have h1:cntK F k≤cntK F (k+1):=List.countP_mono_left fun x _ hx=>by simp only [decide_eq_true_eq] at hx ⊢;omega
   have h4:E*cntK F k≤E*cntK F (k+1):=Nat.mul_le_mul_left E h1
   omega
theorem tries_bound {E:Nat} (hE:1≤E) (F:List Int) (k:Nat):k≤atK E F k+E*F.length:=by
 have h1:=tries_le hE F k
 have h2:cntK F k≤F.length:=List.countP_le_length
 have h3:E*cntK F k≤E*F.length:=Nat.mul_le_mul_left E h2
 omega
def TrySt (E:Nat) (F:List Int) (L k:Nat):Prop:=atK E F k≤L∧∀ j,j<k→atK E F j<L
theorem TrySt.start (E:Nat) (F:List Int) (L:Nat):TrySt E F L 0:=⟨Nat.zero_le _,fun j h=>absurd h (Nat.not_lt_zero _)⟩
theorem TrySt.next {E:Nat} {F:List Int} {L k:Nat} (hE:1≤E) (h:TrySt E F L k) (hk:atK E F k<L):TrySt E F L (k+1):=by
 refine ⟨?_,fun j hj=>?_⟩
 ·by_cases hf:fellAt F (k+1)=true
  ·rw [atK_fell hf]
   have:=Nat.div_mul_le_self (atK E F k) E
   omega
  ·rw [atK_went hf];omega
 ·rcases Nat.lt_or_ge j k with h1|h1
  ·exact h.2 j h1
  ·obtain rfl:j=k:=by omega
   exact hk
theorem TrySt.same {E:Nat} {F:List Int} {L k m:Nat} (h:TrySt E F L k) (hk:¬ atK E F k<L) (h':TrySt E F L m) (hm:¬ atK E F m<L):k=m:=by
 rcases Nat.lt_trichotomy k m with h1|h1|h1
 ·exact absurd (h'.2 k h1) hk
 ·exact h1
 ·exact absurd (h.2 m h1) hm
theorem TrySt.small {E:Nat} {F:List Int} {L k:Nat} (hE:1≤E) (hE2:E≤20) (hF:F.length≤20) (h:TrySt E F L k):k≤L+400:=by
 have h1:=tries_bound hE F k
 have h2:E*F.length≤20*20:=Nat.mul_le_mul hE2 hF
 have:=h.1
 omega
theorem all_fits {s:Sta} {l:List Bat} {p ln kp:Int} (h:s.fault=0) (hs:s.steps≤999999980):∀ k,k≤20→allFt s l p ln kp k=0→(allSt s l p ln kp k).fault=0
 | 0,_,_=>h
 | k+1,hk,hf=>by
  have h1:=allFt_less (Nat.le_succ k) hf
  rw [allFt_next h1] at hf
  exact oneOf_fits hf (by rw [allSt_steps];omega)
end Gal
end
