/- Rows of one's own among what lies apart. No conditions beside those that each lemma states. -/
import Derived.Test.YtghgjjpddemjkaaDueGot
namespace Go.Proofs.Ytghgjjpddemjkaa.Due
open Go.RowKit Go.Proofs.Ytghgjjpddemjkaa.Pa Go.Proofs.YtghgjjpddemjkaaW.PrintWords Go.Proofs.YtghgjjpddemjkaaW.PrintLast Go.Proofs.YtghgjjpddemjkaaW.PrintMore
set_option linter.unusedVariables false

theorem sit_turn1 {w0 W W' : World} {T : List Thing} {t' : Thing} {F F' : Nat → Prop} (hb : Below w0.heap.size w0 W) (h2 : ∀ k, F k → w0.heap.size ≤ k ∧ k < W.heap.size ∧ ¬ False) (h3 : All W w0.heap.size T (fun k => False ∨ F k))
    (k1 : Lies W' t' F') (k2 : ∀ k, F' k → F k ∨ W.heap.size ≤ k) (k3 : Went F W W') (k4 : ∀ k, F' k → k < W'.heap.size) : Sit w0 W' (t' :: T) := by
  have hbase : ∀ k, F' k → w0.heap.size ≤ k := fun k hk => by
    rcases k2 k hk with h | h
    · exact (h2 k h).1
    · exact Nat.le_trans hb.size h
  refine ⟨k3.below hb hb.size (fun k hk => (h2 k hk).1), F', k1, fun k hk => ⟨hbase k hk, k4 k hk, fun h => h⟩, ?_⟩
  have h4 : All W w0.heap.size T (fun k => F k ∨ F' k) := h3.mono (fun k hl h => by
    rcases h with h | h
    · exact .inr h
    · rcases k2 k h with h | h
      · exact .inr h
      · omega)
  exact (h4.kept k3 (fun k _ hk => .inl hk)).mono (fun k _ h => by
    rcases h with h | h
    · exact h.elim
    · exact .inr h)
theorem row_lt {W : World} {v : Value} {l : List D} (h : Kd.R k30 30 W 0 (fun _ => True) v l) (k : Nat) (hk : v.ownBlock = some k) : k < W.heap.size := by
  obtain ⟨inner, ho⟩ := Kd.R_own h
  exact own_lt ho k hk
theorem Sit.row {w0 W : World} {T : List Thing} {v : Value} {l : List D} (h : Sit w0 W (.row v l :: T)) : Kd.R k30 30 W 0 (fun _ => True) v l := by
  obtain ⟨hb, F, ⟨h1, hF⟩, h2, h3⟩ := h
  exact h1
theorem Sit.nilrow {w0 W : World} {T : List Thing} (h : Sit w0 W T) : Sit w0 W (.row (.slice none 0 0) [] :: T) :=
  ⟨h.below, fun _ => False, ⟨Kd.R_nil _ _ _ _ _, fun k => by simp [Value.ownBlock]⟩, fun k hk => hk.elim, h.all.mono (fun k _ h => by rcases h with h | h <;> exact h)⟩
theorem Sit.appended {w0 W w1 : World} {T : List Thing} {v v1 : Value} {l l1 : List D} (h : Sit w0 W (.row v l :: T)) (ho : Kd.R k30 30 w1 0 (fun _ => True) v1 l1) (hg : W.grownBy w1 v.ownBlock) (hat : v1.ownBlock = v.ownBlock ∨ ∃ b, v1.ownBlock = some b ∧ W.heap.size ≤ b) : Sit w0 w1 (.row v1 l1 :: T) := by
  obtain ⟨hb, F, ⟨h1, hF⟩, h2, h3⟩ := h
  refine sit_turn1 hb h2 h3 (F' := fun k => v1.ownBlock = some k) ⟨ho, fun _ => Iff.rfl⟩ (fun k hk => ?_) ⟨hg.os, hg.tape, hg.output, hg.size, fun i hi hn => hg.block i hi (fun e => hn ((hF i).2 e.symm))⟩ (fun k hk => row_lt ho k hk)
  rcases hat with e | ⟨b, e, hle⟩
  · exact .inl ((hF k).2 (e ▸ hk))
  · rw [e] at hk
    injection hk with hk
    exact .inr (by omega)
/-- A row that a call has made. -/
theorem Sit.newrow {w0 W W' : World} {T : List Thing} {v : Value} {l : List D} {ok : Nat → Prop} (h : Sit w0 W T) (hb : Below W.heap.size W W') (ho : Kd.R k30 30 W' W.heap.size ok v l) : Sit w0 W' (.row v l :: T) := by
  have hlow : ∀ k, v.ownBlock = some k → W.heap.size ≤ k ∧ k < W'.heap.size := by
    obtain ⟨inner, h1⟩ := Kd.R_own ho
    exact fun k hk => h1.lt k hk
  refine ⟨(h.behind hb).below, fun k => v.ownBlock = some k, ⟨Kd.R_lower (Kd.R_mono ho (fun _ _ => trivial)) (Nat.zero_le _), fun _ => Iff.rfl⟩, fun k hk => ⟨Nat.le_trans h.below.size (hlow k hk).1, (hlow k hk).2, fun h => h⟩, ?_⟩
  refine All.mono ((All.mono (U' := fun k => v.ownBlock = some k) h.all (fun k hl hk => by have := (hlow k hk).1; omega)).kept (S := fun _ => False) (Went.of_below hb _) (fun _ _ h => h.elim)) (fun k _ h => ?_)
  rcases h with h | h
  · exact h.elim
  · exact h
end Go.Proofs.Ytghgjjpddemjkaa.Due
