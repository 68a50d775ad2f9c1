/- What is written is read: plain laws of requests and replies. No program in sight. -/
import Derived.Test.YtgdelfckhcgnhaaReqTold
namespace Go.Proofs.Ytgdelfckhcgnhaa.Code
open Go.RowKit Go.Proofs.Ytgdelfckhcgnhaa.Pa Go.Proofs.YtgdelfckhcgnhaaW.PrintWords Go.Proofs.YtgdelfckhcgnhaaW.PrintLast Go.Proofs.YtgdelfckhcgnhaaW.PrintMore
set_option linter.unusedVariables false

inductive FOp where
  | n (i : Nat)
  | w (i : Nat)
  | l
variable {σ : Type}
def Do.op (D : Do σ) (p : (σ × List Int) × List S93) : FOp → (σ × List Int) × List S93
  | .n i => (D.step p.1 i, p.2)
  | .w i => (D.stepW p.1 i, p.2)
  | .l => (((D.lin p.1.1 p.2).1, p.1.2), (D.lin p.1.1 p.2).2)
def Do.ops (D : Do σ) (o : List FOp) (p : (σ × List Int) × List S93) : (σ × List Int) × List S93 := o.foldl D.op p
def opsOf (k : Int) : List FOp :=
  if k = 1 then [.n 1, .n 2, .n 3, .n 5] else
  if k = 2 then [.n 1, .n 2, .n 3, .w 5] else
  if k = 3 then [.n 1, .n 2, .n 3, .n 4, .n 5] else
  if k = 4 then [.n 1, .n 8, .l] else
  if k = 5 then [.n 1, .n 6, .n 7, .n 5] else
  if k = 6 then [.n 1, .n 6] else
  if k = 7 then [.n 8] else
  if k = 8 then [.n 2, .n 3] else
  if k = 9 then [.n 6] else
  if k = 10 then [.n 8] else []
theorem fields_ops (D : Do σ) (k : Int) (s : σ) (ns : List Int) (L : List S93) : D.fields k s ns L = D.ops (opsOf k) ((s, ns), L) := by
  unfold Do.fields opsOf
  by_cases h1 : k = 1
  · rw [if_pos h1, if_pos h1]; rfl
  rw [if_neg h1, if_neg h1]
  by_cases h2 : k = 2
  · rw [if_pos h2, if_pos h2]; rfl
  rw [if_neg h2, if_neg h2]
  by_cases h3 : k = 3
  · rw [if_pos h3, if_pos h3]; rfl
  rw [if_neg h3, if_neg h3]
  by_cases h4 : k = 4
  · rw [if_pos h4, if_pos h4]; rfl
  rw [if_neg h4, if_neg h4]
  by_cases h5 : k = 5
  · rw [if_pos h5, if_pos h5]; rfl
  rw [if_neg h5, if_neg h5]
  by_cases h6 : k = 6
  · rw [if_pos h6, if_pos h6]; rfl
  rw [if_neg h6, if_neg h6]
  by_cases h7 : k = 7
  · rw [if_pos h7, if_pos h7]; rfl
  rw [if_neg h7, if_neg h7]
  by_cases h8 : k = 8
  · rw [if_pos h8, if_pos h8]; rfl
  rw [if_neg h8, if_neg h8]
  by_cases h9 : k = 9
  · rw [if_pos h9, if_pos h9]; rfl
  rw [if_neg h9, if_neg h9]
  by_cases h10 : k = 10
  · rw [if_pos h10, if_pos h10]; rfl
  rw [if_neg h10, if_neg h10]; rfl

/-- What is written from s to s' is read. -/
def RT {α : Type} (s s' : Bool × List Int) (rd : Bool × List Int → (Bool × List Int) × α) (v : α) : Prop :=
  s'.1 = false → s.1 = false ∧ ∃ d, s'.2 = s.2 ++ d ∧ Bytes d ∧ ∀ t, rd (false, d ++ t) = ((false, t), v)
def L3 (y : S93) : Prop := In64 y.f0 ∧ In64 y.f1 ∧ In64 y.f2
def L4 (y : S76) : Prop := In64 y.f0 ∧ In64 y.f1 ∧ In64 y.f2 ∧ In64 y.f3
/-! #### Fields -/
def mvOp : (List Int × List S93) × (List Int × List S93) → FOp → (List Int × List S93) × (List Int × List S93)
  | ((ns, L), (ms, M)), .n i => ((ns.set i 0, L), (ms.set i (ns.getD i 0), M))
  | ((ns, L), (ms, M)), .w i => ((ns.set i 0, L), (ms.set i (ns.getD i 0), M))
  | ((ns, L), (ms, M)), .l => ((ns, []), (ms, L))
theorem In64.getD {ns : List Int} (h : ∀ x ∈ ns, In64 x) (i : Nat) : In64 (ns.getD i 0) := by
  rcases Nat.lt_or_ge i ns.length with h1 | h1
  · exact h _ (by simp [h1])
  · rw [List.getD_eq_getElem?_getD, List.getElem?_eq_none h1]; exact In64.zero
theorem In64.set {ns : List Int} (h : ∀ x ∈ ns, In64 x) (i : Nat) : ∀ x ∈ ns.set i 0, In64 x := fun x hx => by
  rcases List.mem_or_eq_of_mem_set hx with h1 | rfl
  · exact h x h1
  · exact In64.zero
end Go.Proofs.Ytgdelfckhcgnhaa.Code
