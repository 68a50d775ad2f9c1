/- A range over a function whose loop never leaves early: the caller's facts and the iterator's go hand in hand. General. No conditions beside those that the law states. -/
import Derived.RangeFuncNested
import Derived.RangeFuncBound
import Derived.RangeFuncCalls
import Derived.RangeFuncLeaves
import Derived.WalkKit
import Derived.OwnWalkIn
import Derived.TacticsInMore
import Derived.LoopNIn
import Derived.LoopIn
namespace Go.Proofs.Ytgdelfckhcgnhaa.Range
open Go.RowKit
variable {F : Fence} {n : Nat} {P : Program}

/-- What the iterator finds ahead of each round (J), what a round leaves (J1), what the iterator leaves (E); what else lies there (K: the loop's own record) stays. -/
theorem range_all {α : Type} {g : Operand} {ps : Array Tmp} {assign body : Code} {Q : Exit → Act → World → Prop} {a : Act} {w : World}
    (hro : F.round = none) (h1 : 1 ≤ n) {gf : Nat} {lb : Array Value} (hg : a.eval g = .func (.func gf) #[] lb) (hFg : F.fn gf) (eg : ∀ args w, (callFunc gf args).run P w = .ok (.enter gf args) w)
    {encs : α → Array Value} (hps : ∀ x, (encs x).size = ps.size) (J J1 E : List α → World → Prop)
    (hJ : ∀ pre W l o o', w.heap.size ≤ l → W.heap[l]? = some o → o.isCells = false → J pre W → J pre (W.putObj l o'))
    (hJ1 : ∀ pre W l o o', w.heap.size ≤ l → W.heap[l]? = some o → o.isCells = false → J1 pre W → J1 pre (W.putObj l o'))
    (hE : ∀ pre W l o o', w.heap.size ≤ l → W.heap[l]? = some o → o.isCells = false → E pre W → E pre (W.putObj l o'))
    (h0 : ∀ o o', J [] ((w.alloc o).alloc o')) (a₁ : α → Act)
    (hassign : ∀ (l : Nat) (x : α) (W : World) (K : Act → World → Prop), K (a₁ x) W →
      assign.wpIn (F.inRound l) (n - 1 - 1) P (Exit.then K (fun _ _ _ => False)) { tmps := (ps.zip (encs x)).foldl (fun t (p, v) => t.setIfInBounds p v) a.tmps, defers := [] } W)
    (hbody : ∀ (l : Nat) (pre : List α) (x : α) (W : World), J pre W → body.wpIn (F.inRound l) (n - 1 - 1) P (fun e _ W' => e = .normal ∧ KeepsOthers W W' ∧ J1 (pre ++ [x]) W') (a₁ x) W)
    (hiter : ∀ (l : Nat) (K : World → Prop), (∀ A B, K A → KeepsOthers A B → K B) →
      (∀ pre x W, J pre W → K W → YieldAt F (n - 1 - 1) P l (encs x) W fun e W' => e = .returned (.bool true) ∧ J1 (pre ++ [x]) W' ∧ K W') →
      ∀ W, J [] W → K W → CallsIn F (n - 1) P gf (#[.func (.yield l) #[] #[]] ++ lb) W fun e W' => (∃ v, e = .returned v) ∧ ∃ xs, E xs W' ∧ K W')
    (hdone : ∀ (D : Nat) (xs : List α) (W : World), E xs W → W.heap[D]? = some (.deferred (some [])) → w.heap.size ≤ D → Q .normal { a with defers := { target := .collected D, args := #[] } :: a.defers } W) :
    (Code.rangeFunc g ps assign body).wpIn F n P Q a w := by
  refine wpIn_rangeFunc fun fn hfn => ?_
  rw [hro]
  obtain ⟨m, hm⟩ : ∃ m, m = w.heap.size := ⟨_, rfl⟩
  obtain ⟨rec, hrec⟩ : ∃ rec : LoopState → Loop, rec = fun st => { state := st, pending := none, fn := fn, tmps := a.tmps, params := ps, assign := assign, body := body, defers := m } := ⟨_, rfl⟩
  have hen := run_enterLoop_outer (P := P) (w := w) fn a.tmps ps assign body
  have hL : ((w.alloc (.deferred (some []))).alloc (.loop (rec .ready))).heap[m + 1]? = some (.loop (rec .ready)) := by
    have := World.alloc_heap_new (w.alloc (.deferred (some []))) (.loop (rec .ready))
    rwa [World.size_alloc, ← hm] at this
  have hD : ((w.alloc (.deferred (some []))).alloc (.loop (rec .ready))).heap[m]? = some (.deferred (some [])) := by
    rw [hm]
    exact (Below.heap_alloc _ _ _ (by simp)).trans (World.alloc_heap_new w _)
  refine ⟨m + 1, [{ target := .collected m, args := #[] }], (w.alloc (.deferred (some []))).alloc (.loop (rec .ready)), { target := .fn (.func gf) lb, args := #[.func (.yield (m + 1)) #[] #[]] }, (w.alloc (.deferred (some []))).alloc (.loop (rec .ready)), gf, #[.func (.yield (m + 1)) #[] #[]] ++ lb, (w.alloc (.deferred (some []))).alloc (.loop (rec .ready)), ?_, ?_, ?_, ?_, fun _ => h1, ?_⟩
  · rw [hrec, hm]; exact hen
  · simp only [resolve, hg]
    simp [go_sem]
  · intro f' hf'
    simp [Target.leads] at hf'
    subst hf'
    exact hFg
  · simp [invoke, go_sem, eg]
  -- the loop's own record stays as it is while a round is not under way
  refine (hiter (m + 1) (fun W => W.heap[m + 1]? = some (.loop (rec .ready)) ∧ W.heap[m]? = some (.deferred (some [])))
    (fun A B h k => ⟨k.same _ _ h.1 rfl, k.same _ _ h.2 rfl⟩) (fun pre x W hj hk => ?_) _ (h0 _ _) ⟨hL, hD⟩).mono ?_
  · obtain ⟨hl, hd⟩ := hk
    have hy := run_yield (P := P) (args := encs x) hl (by rw [hrec]; exact hps x)
    have hb : (Instr.beginRound (m + 1)).run P W = .ok () (W.putObj (m + 1) (.loop (rec .busy))) := by
      have := run_beginRound (P := P) hl (by rw [hrec])
      rw [hrec] at this ⊢
      exact this
    simp only [hrec] at hy
    refine ⟨fn, _, assign, body, hy, ?_⟩
    refine roundIn_of_wpIn hfn (hassign _ x W _ ⟨_, hb, ?_⟩)
    have hlt : m + 1 < W.heap.size := (Array.getElem?_eq_some_iff.1 hl).1
    have hl2 : (W.putObj (m + 1) (.loop (rec .busy))).heap[m + 1]? = some (.loop (rec .busy)) := World.putObj_heap_same hlt
    have hd2 : (W.putObj (m + 1) (.loop (rec .busy))).heap[m]? = some (.deferred (some [])) := (World.putObj_heap_other (by omega)).trans hd
    refine wpIn_mono (hbody _ pre x _ (hJ _ _ _ _ _ (by omega) hl rfl hj)) ?_
    rintro e a3 W3 ⟨rfl, hko, hj1⟩
    have hl3 := hko.same _ _ hl2 rfl
    have hd3 := hko.same _ _ hd2 rfl
    have hend : (Instr.endRound (m + 1) none).run P W3 = .ok (.bool true) (W3.putObj (m + 1) (.loop (rec .ready))) := by
      have := run_endRound (P := P) none hl3
      rw [hrec] at this ⊢
      exact this
    exact ⟨_, _, hend, rfl, hJ1 _ _ _ _ _ (by omega) hl3 rfl hj1, World.putObj_heap_same (Array.getElem?_eq_some_iff.1 hl3).1, (World.putObj_heap_other (by omega)).trans hd3⟩
  · rintro e W2 ⟨⟨v, rfl⟩, xs, he, hl, hd⟩
    have hend : (Instr.endLoop (m + 1)).run P W2 = .ok none (W2.putObj (m + 1) (.loop (rec .exhausted))) := by
      have := run_endLoop (P := P) hl (by rw [hrec]; simp)
      rw [hrec] at this ⊢
      exact this
    exact ⟨none, _, hend, hdone m xs _ (hE _ _ _ _ _ (by omega) hl rfl he) ((World.putObj_heap_other (by omega)).trans hd) (by omega)⟩
end Go.Proofs.Ytgdelfckhcgnhaa.Range
