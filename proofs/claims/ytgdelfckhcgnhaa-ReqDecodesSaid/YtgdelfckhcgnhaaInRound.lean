/- A region that draws its order, walked as anywhere, serves in a round's frame too: where no operation of it defers. General. No conditions beside those that each theorem states. -/
import Derived.Test.YtgdelfckhcgnhaaRange
import Derived.OrdersIn
namespace Go.Proofs.Ytgdelfckhcgnhaa.Range
open Go.RowKit
variable {P : Program} {md : Region.Mode} {ops : Array Oper} {Q : Exit → Act → World → Prop}

theorem rowsIn_wide {l n : Nat} {row : String} {args : Array Value} {w : World} {R : Value → World → Prop} (h : Rows P row args w R) : RowsIn (Fence.wide.inRound l) n P row args w R := by
  intro c cs _
  obtain ⟨v, w', hr, hs⟩ := h c cs
  exact ⟨v, w', hr, stepsIn_wide.2 hs⟩
theorem oper_in {l n : Nat} {o : Oper} (hnd : ∀ c : Call, o.op ≠ Op.defer c) {a : Act} {w : World} {K : Act → World → Prop} (h : o.wp P a w K Q) : o.wpIn (Fence.wide.inRound l) n P a w K Q := by
  refine ⟨fun f _ => trivial, ?_⟩
  rw [Oper.semAt_eq _ _ _ hnd]
  unfold Oper.wp at h
  generalize (execOp a.eval o).run P w = r at h ⊢
  cases r with
  | ok x w' =>
    cases x with
    | value v => exact h
    | skip => exact h
    | defer d => exact h
    | enter f args => exact And.intro (fun hd => by cases hd) (CallsIn.inRound l (callsIn_wide.2 h))
    | row r args => exact And.intro (fun hd => by cases hd) (rowsIn_wide h)
    | _ => exact absurd h (by simp [Oper.upon])
  | halt x w' =>
    cases x with
    | panic v => exact h
    | _ => exact absurd h (by simp [Oper.upon])
theorem any_in {l n : Nat} (hnd : ∀ (i : Nat) (o : Oper), ops[i]? = some o → ∀ c : Call, o.op ≠ Op.defer c) (hQ : ¬ LetsOut Q) :
    ∀ (fuel : Nat) (listed : Array Bool) (a : Act) (w : World), wpAny P md ops Q fuel listed a w → wpAnyIn (Fence.wide.inRound l) n P md ops Q fuel listed a w
  | 0, _, _, _, h => h
  | fuel + 1, listed, a, w, h => by
    refine ⟨h.1, fun i hi => ?_⟩
    have hs := h.2 i hi
    unfold wpOp at hs
    unfold wpOpIn
    cases ho : ops[i]? with
    | none =>
      rw [ho] at hs
      exact any_in hnd hQ fuel _ _ _ hs
    | some o =>
      rw [ho] at hs
      simp only at hs ⊢
      by_cases hw : Region.wanted o (yielded ops a.tmps) = true
      · rw [if_pos hw] at hs ⊢
        rcases hs with hs | hs
        · exact oper_in (hnd i o ho) (Oper.wp_mono (fun a w h => any_in hnd hQ fuel _ _ _ h) hs)
        · exact absurd hs.2 hQ
      · rw [if_neg hw] at hs ⊢
        exact ⟨fun _ _ => trivial, any_in hnd hQ fuel _ _ _ hs⟩
theorem region_in {l n id : Nat} {a : Act} {w : World} (hm : P.follows .mixedOrders = true) (hnd : (ops.all fun o => match o.op with | .defer _ => false | _ => true) = true) (hQ : ¬ LetsOut Q)
    (h : wpAny P .any ops Q ops.size (Array.replicate ops.size false) a w.drew) : (Code.region id ops true).wpIn (Fence.wide.inRound l) n P Q a w := by
  refine wpIn_region_any hm (any_in (fun i o ho c e => ?_) hQ _ _ _ _ h)
  rw [Array.all_eq_true] at hnd
  obtain ⟨hi, e2⟩ := Array.getElem?_eq_some_iff.1 ho
  have := hnd i hi
  rw [e2, e] at this
  cases this
end Go.Proofs.Ytgdelfckhcgnhaa.Range
