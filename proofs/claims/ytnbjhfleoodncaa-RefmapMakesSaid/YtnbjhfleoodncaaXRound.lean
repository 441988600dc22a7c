/- A region that draws its order, within a round of a range over a function: what only reads, and a tail in one order, walked once (the kit's wp_region_still_tail, carried into a round's frame). -/
import Derived.StillTail
import Derived.StillTailTactics
import Derived.RangeFuncCalls
import Derived.CallsIn
import Derived.OrdersIn
import Derived.TacticsIn
namespace Go.Proofs.Ytnbjhfleoodncaa.X
open Go

/-- an exit that only the region's end reaches -/
def endOnly (Q : Exit → Act → World → Prop) : Exit → Act → World → Prop
  | .normal, a, w => Q .normal a w
  | _, _, _ => False

theorem not_letsOut (Q : Exit → Act → World → Prop) : ¬ LetsOut (endOnly Q) := fun ⟨_, _, h⟩ => h

theorem oper_in_round {P : Program} {o : Oper} {a : Act} {w : World} {K : Act → World → Prop} {Q : Exit → Act → World → Prop} {l n : Nat} (hd : ∀ c, o.op ≠ .defer c) (h : o.wp P a w K (endOnly Q)) :
    o.wpIn (Fence.wide.inRound l) n P a w K Q := by
  unfold Oper.wpIn
  refine ⟨fun _ _ => trivial, ?_⟩
  unfold Oper.wp at h
  rw [Oper.semAt_eq _ _ _ hd]
  generalize (execOp a.eval o).run P w = r at h
  cases r with
  | ok x w' =>
    cases x <;> simp only [Oper.upon, Oper.uponIn] at h ⊢
    case value v => exact h
    case skip => exact h
    case defer d => exact h
    case enter f args =>
      refine ⟨fun hh => by simp [Fence.wide, Fence.inRound] at hh, CallsIn.inRound l (callsIn_wide.2 (h.mono ?_))⟩
      intro e w'' he
      cases e with
      | returned v => exact he
      | panicked c => exact he.elim
      | outgrown => exact absurd he (not_letsOut Q)
    case row row args =>
      refine ⟨fun hh => by simp [Fence.wide, Fence.inRound] at hh, fun c cs _ => ?_⟩
      obtain ⟨v, w'', hr, hs⟩ := h c cs
      exact ⟨v, w'', hr, stepsIn_wide.2 hs⟩
  | halt x w' =>
    cases x <;> simp only [Oper.upon, Oper.uponIn] at h ⊢
    exact h.elim

theorem any_in_round {P : Program} {md : Region.Mode} {ops : Array Oper} {Q : Exit → Act → World → Prop} {l n : Nat} (hd : ∀ (i : Nat) (o : Oper) (c), ops[i]? = some o → o.op ≠ .defer c) :
    ∀ (fuel : Nat) (listed : Array Bool) (a : Act) (w : World), wpAny P md ops (endOnly Q) fuel listed a w → wpAnyIn (Fence.wide.inRound l) n P md ops Q fuel listed a w
  | 0, _, _, _, h => h
  | fuel + 1, listed, a, w, h => by
    refine ⟨fun h0 => h.1 h0, fun i hi => ?_⟩
    have h1 := h.2 i hi
    unfold wpOp at h1
    unfold wpOpIn
    split
    · rename_i h0
      simp only [h0] at h1
      exact any_in_round hd fuel _ _ _ h1
    · rename_i o h0
      simp only [h0] at h1
      split
      · rename_i hw
        simp only [hw, if_true] at h1
        rcases h1 with h1 | h1
        · exact Oper.wpIn_mono (fun a w hk => any_in_round hd fuel _ _ _ hk) (oper_in_round (fun c => hd i o c h0) h1)
        · exact absurd h1.2 (not_letsOut Q)
      · rename_i hw
        simp only [hw] at h1
        exact ⟨fun _ _ => trivial, any_in_round hd fuel _ _ _ (by simpa using h1)⟩

theorem round_still_tail {P : Program} {id : Nat} {Q : Exit → Act → World → Prop} {a : Act} {w : World} {l : List Oper} {lr m : Nat} (n : Nat) (hm : P.follows .mixedOrders = true) (hB : Region.lexTailB .any l.toArray n = true)
    (hd : l.all (fun o => match o.op with | .defer _ => false | _ => true) = true)
    (h : wpStill P l.toArray { w with drawn := w.drawn + 1 } (fun a' => wpList P l.toArray (endOnly Q) (l.drop n) a' { w with drawn := w.drawn + 1 }) (l.take n) a) : (Code.region id l.toArray true).wpIn (Fence.wide.inRound lr) m P Q a w := by
  simp only [Region.lexTailB, Bool.and_eq_true, decide_eq_true_eq] at hB
  obtain ⟨⟨⟨⟨hsel, hn⟩, hs⟩, hc⟩, hlex⟩ := hB
  have hn' : n < l.length := by simpa using hn
  have htl : (l.take n).length = n := by simp; omega
  have hdl : (l.drop n).length = l.toArray.size - n := by simp
  have inv0 : HeadInv .any l.toArray n (Array.replicate l.toArray.size false) :=
    ⟨by simp, fun j oj _ hl => (by rw [getD_replicate_false] at hl; cases hl), fun t _ ht => getD_in (by simpa using ht) (getD_replicate_false _ _)⟩
  have H := wpAnyL_lex (md := .any) (g := l.toArray.size - n) hsel hs hc hn (l.take n) 0 _ a (fun j hj => by
    have hj' : j < n := by rw [htl] at hj; exact hj
    simp [hj']) (by simpa using htl) inv0 (by rw [htl]; exact hlex) h
  refine wpIn_region_any hm ?_
  have := wpAny_of_head (Q' := endOnly Q) (g := l.toArray.size - n) (fun listed a' hL => by
    have := wpAny_of_seq (md := .any) (Q' := endOnly Q) (l.drop n) n listed a' { w with drawn := w.drawn + 1 } (fun j => by simp [List.getElem?_drop]) (by rw [hdl]; exact hL.1) hL.2
    rwa [hdl] at this) _ _ _ H
  rw [htl, show n + (l.toArray.size - n) = l.toArray.size by omega] at this
  refine any_in_round (fun i o c ho hoc => ?_) _ _ _ _ this
  have ho' : l[i]? = some o := by simpa using ho
  have := List.all_eq_true.1 hd o (List.mem_of_getElem? ho')
  rw [hoc] at this
  cases this

end Go.Proofs.Ytnbjhfleoodncaa.X
