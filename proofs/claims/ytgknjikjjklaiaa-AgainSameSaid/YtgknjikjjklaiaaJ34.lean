/- Texts joined: Round. -/
import Derived.RangeFuncCalls
import Derived.OrdersIn
import Derived.OrdersHeld
import Derived.Deep.RegionHeld
section
set_option linter.unusedVariables false
set_option linter.unusedSimpArgs false
namespace Gal
open Go
section
variable {n l : Nat} {P : Program} {ops : Array Oper} {Q : Exit → Act → World → Prop}
theorem rowsIn_round {row : String} {args : Array Value} {w : World} {R : Value → World → Prop} (h : Rows P row args w R) : RowsIn (Fence.wide.inRound l) n P row args w R := fun c cs _ => by
 obtain ⟨v, w', r, s⟩ := h c cs
 exact ⟨v, w', r, stepsIn_wide.2 s⟩
theorem oper_round {o : Oper} {a : Act} {w : World} {K : Act → World → Prop} (hd : ∀ c, o.op ≠ .defer c) (h : o.wp P a w K Q) : o.wpIn (Fence.wide.inRound l) n P a w K Q := by
 refine ⟨fun f _ => trivial, ?_⟩
 rw [Oper.semAt_eq _ _ _ hd]
 unfold Oper.wp at h
 generalize (execOp a.eval o).run P w = r at h ⊢
 cases r with
 | ok nx w' =>
  cases nx with
  | enter f args =>
   refine ⟨fun hh => by simp [Fence.wide, Fence.inRound] at hh, CallsIn.inRound l (callsIn_wide.2 (h.mono ?_))⟩
   intro e w'' he
   cases e <;> exact he
  | row row args => exact ⟨fun hh => by simp [Fence.wide, Fence.inRound] at hh, rowsIn_round h⟩
  | value v => exact h
  | skip => exact h
  | defer d => exact h
  | _ => exact h.elim
 | halt hl w' =>
  cases hl <;> first | exact h | exact h.elim
theorem wpAny_round (hd : ∀ (j : Nat) (o : Oper) c, ops[j]? = some o → o.op ≠ .defer c) (hQ : ¬ LetsOut Q) (md : Region.Mode) :
  ∀ (fuel : Nat) (listed : Array Bool) (a : Act) (w : World), wpAny P md ops Q fuel listed a w → wpAnyIn (Fence.wide.inRound l) n P md ops Q fuel listed a w
 | 0, _, _, _, h => h
 | fuel + 1, listed, a, w, h => ⟨h.1, fun i hi => by
  have hs := h.2 i hi
  unfold wpOp at hs
  unfold wpOpIn
  cases ho : ops[i]? with
  | none =>
   rw [ho] at hs
   exact wpAny_round hd hQ md fuel _ a w hs
  | some o =>
   rw [ho] at hs
   dsimp only at hs ⊢
   by_cases hw : Region.wanted o (yielded ops a.tmps) = true
   ·rw [if_pos hw] at hs ⊢
    rcases hs with hs | hs
    ·exact oper_round (hd i o · ho) (Oper.wp_mono (fun a w => wpAny_round hd hQ md fuel _ a w) hs)
    ·exact absurd hs.2 hQ
   ·rw [if_neg hw] at hs ⊢
    exact ⟨fun f _ => trivial, wpAny_round hd hQ md fuel _ _ w hs⟩⟩
theorem wpIn_region_held {id : Nat} {a : Act} {w : World} {S : World → Prop} (hm : P.follows .mixedOrders = true) (hd : ops.all (fun o => match o.op with | .defer _ => false | _ => true) = true) (hQ : ¬ LetsOut Q) (hS : S w.drew)
  (h : S w.drew → wpAnyH P .any ops Q S ops.size (Array.replicate ops.size false) a w.drew) : (Code.region id ops true).wpIn (Fence.wide.inRound l) n P Q a w :=
 wpIn_region_any hm (wpAny_round (fun j o c ho e => by
  have h1 := Array.all_eq_true'.1 hd o (Array.mem_of_getElem? ho)
  rw [e] at h1
  cases h1) hQ _ _ _ _ _ (wpAny_of_held _ _ _ _ (h hS)))
def nth {α : Type} : List α → Nat → Option α
 | [], _ => none
 | x :: _, 0 => some x
 | _ :: l, k + 1 => nth l k
theorem nth_get {α : Type} : ∀ (l : List α) (k : Nat), l[k]? = nth l k
 | [], k => by simp [nth]
 | x :: l, 0 => by simp [nth]
 | x :: l, k + 1 => by simp only [List.getElem?_cons_succ, nth]; exact nth_get l k
theorem held_take {L : List Oper} {S : World → Prop} {md : Region.Mode} {i : Nat} {oi : Oper} {v : Value} {fuel : Nat} {listed : Array Bool} {a : Act} {w : World} (hi : nth L i = some oi)
  (hs : Region.noSelect L.toArray = true) (hf : Region.free md L.toArray listed i = true) (hr : (Region.ready md L.toArray listed).contains i = true)
  (hQ : ∀ c a w, Q (.panic c) (a.put oi.dst v) w → Q (.panic c) a w) (hy : YieldsIf P L.toArray S oi v a) (hS : S w)
  (h : wpAnyH P md L.toArray Q S fuel (listed.setIfInBounds i true) (a.put oi.dst v) w) : wpAnyH P md L.toArray Q S (fuel + 1) listed a w :=
 wpAnyH_take (by rw [List.getElem?_toArray, nth_get]; exact hi) hs hf hr hQ hy hS h
theorem held_cons {L : List Oper} {S : World → Prop} {md : Region.Mode} {fuel : Nat} {listed : Array Bool} {a : Act} {w : World} {i : Nat} {o : Oper} {rs : List Nat} (ho : nth L i = some o)
  (h : ∀ K' : Act → World → Prop, Shut (∀ a w, S w → (S w → wpAnyH P md L.toArray Q S fuel (listed.setIfInBounds i true) a w) → K' a w) → if Region.wanted o (yielded L.toArray a.tmps) = true then Oper.wp P o a w K' Q else K' (a.put o.dst undef) w)
  (hs : AllReadyH P md L.toArray Q S fuel listed a w rs) : AllReadyH P md L.toArray Q S fuel listed a w (i :: rs) :=
 AllReadyH.cons (by rw [List.getElem?_toArray, nth_get]; exact ho) h hs
end
end Gal
end
