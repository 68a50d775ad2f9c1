/- A range over a function whose loop never leaves early: the caller's facts and the iterator's go hand in hand. General. No conditions beside those that the law states. -/
import Derived.RangeFuncNested
import Derived.RangeFuncBound
import Derived.RangeFuncCalls
import Derived.RangeFuncLeaves
import Derived.WalkKit
import Derived.OwnWalkIn
import Derived.TacticsInMore
import Derived.LoopNIn
import Derived.LoopIn
import Derived.Test.YtjhdjkanepdgiaaDueB
import Derived.Test.YtjhdjkanepdgiaaBookExt2
import Derived.RangeFuncBox
namespace Go.Proofs.Ytjhdjkanepdgiaa.Range
set_option linter.unusedVariables false
open Go.RowKit
variable {F : Fence} {n : Nat} {P : Program}

/-- What the iterator finds ahead of each round (J), what a round leaves (J1), what the iterator leaves (E); what else lies there (K: the loop's own record) stays. -/
theorem range_all2 {α : Type} {g : Operand} {ps : Array Tmp} {assign body : Code} {Q : Exit → Act → World → Prop} {a : Act} {w : World}
    (hro : F.round = none) (h1 : 1 ≤ n) {gf : Nat} {lb : Array Value} (hg : a.eval g = .func (.func gf) #[] lb) (hFg : F.fn gf) (eg : ∀ args w, (callFunc gf args).run P w = .ok (.enter gf args) w)
    {encs : α → Array Value} (hps : ∀ x, (encs x).size = ps.size) (J J1 E : List α → World → Prop) (J0 : List α → α → Act → World → Prop)
    (hJ : ∀ pre W l o o', w.heap.size ≤ l → W.heap[l]? = some o → o.isCells = false → J pre W → J pre (W.putObj l o'))
    (hJ1 : ∀ pre W l o o', w.heap.size ≤ l → W.heap[l]? = some o → o.isCells = false → J1 pre W → J1 pre (W.putObj l o'))
    (hE : ∀ pre W l o o', w.heap.size ≤ l → W.heap[l]? = some o → o.isCells = false → E pre W → E pre (W.putObj l o'))
    (hJ0 : ∀ pre x a1 W l o o', w.heap.size ≤ l → W.heap[l]? = some o → o.isCells = false → J0 pre x a1 W → J0 pre x a1 (W.putObj l o'))
    (Js : World → Prop) (h0 : ∀ o o', Js ((w.alloc o).alloc o'))
    (hassign : ∀ (l : Nat) (pre : List α) (x : α) (W : World) (K : Act → World → Prop), J pre W → (∀ a1 W1, J0 pre x a1 W1 → KeepsOthers W W1 → K a1 W1) →
      assign.wpIn (F.inRound l) (n - 1 - 1) P (Exit.then K (fun _ _ _ => False)) { tmps := (ps.zip (encs x)).foldl (fun t (p, v) => t.setIfInBounds p v) a.tmps, defers := [] } W)
    (hbody : ∀ (l : Nat) (pre : List α) (x : α) (a1 : Act) (W : World), J0 pre x a1 W → body.wpIn (F.inRound l) (n - 1 - 1) P (fun e _ W' => e = .normal ∧ KeepsOthers W W' ∧ J1 (pre ++ [x]) W') a1 W)
    (hiter : ∀ (l : Nat) (K : World → Prop), (∀ A B, K A → KeepsOthers A B → K B) →
      (∀ pre x W, J pre W → K W → YieldAt F (n - 1 - 1) P l (encs x) W fun e W' => e = .returned (.bool true) ∧ J1 (pre ++ [x]) W' ∧ K W') →
      ∀ W, Js W → K W → CallsIn F (n - 1) P gf (#[.func (.yield l) #[] #[]] ++ lb) W fun e W' => (∃ v, e = .returned v) ∧ ∃ xs, E xs W' ∧ K W')
    (hdone : ∀ (D : Nat) (xs : List α) (W : World), E xs W → W.heap[D]? = some (.deferred (some [])) → w.heap.size ≤ D → Q .normal { a with defers := { target := .collected D, args := #[] } :: a.defers } W) :
    (Code.rangeFunc g ps assign body).wpIn F n P Q a w := by
  refine wpIn_rangeFunc fun fn hfn => ?_
  rw [hro]
  obtain ⟨m, hm⟩ : ∃ m, m = w.heap.size := ⟨_, rfl⟩
  obtain ⟨rec, hrec⟩ : ∃ rec : LoopState → Loop, rec = fun st => { state := st, pending := none, fn := fn, tmps := a.tmps, params := ps, assign := assign, body := body, defers := m } := ⟨_, rfl⟩
  have hen := run_enterLoop_outer (P := P) (w := w) fn a.tmps ps assign body
  have hL : ((w.alloc (.deferred (some []))).alloc (.loop (rec .ready))).heap[m + 1]? = some (.loop (rec .ready)) := by
    have := World.alloc_heap_new (w.alloc (.deferred (some []))) (.loop (rec .ready))
    rwa [World.size_alloc, ← hm] at this
  have hD : ((w.alloc (.deferred (some []))).alloc (.loop (rec .ready))).heap[m]? = some (.deferred (some [])) := by
    rw [hm]
    exact (Below.heap_alloc _ _ _ (by simp)).trans (World.alloc_heap_new w _)
  refine ⟨m + 1, [{ target := .collected m, args := #[] }], (w.alloc (.deferred (some []))).alloc (.loop (rec .ready)), { target := .fn (.func gf) lb, args := #[.func (.yield (m + 1)) #[] #[]] }, (w.alloc (.deferred (some []))).alloc (.loop (rec .ready)), gf, #[.func (.yield (m + 1)) #[] #[]] ++ lb, (w.alloc (.deferred (some []))).alloc (.loop (rec .ready)), ?_, ?_, ?_, ?_, fun _ => h1, ?_⟩
  · rw [hrec, hm]; exact hen
  · simp only [resolve, hg]
    simp [go_sem]
  · intro f' hf'
    simp [Target.leads] at hf'
    subst hf'
    exact hFg
  · simp [invoke, go_sem, eg]
  -- the loop's own record stays as it is while a round is not under way
  refine (hiter (m + 1) (fun W => W.heap[m + 1]? = some (.loop (rec .ready)) ∧ W.heap[m]? = some (.deferred (some [])))
    (fun A B h k => ⟨k.same _ _ h.1 rfl, k.same _ _ h.2 rfl⟩) (fun pre x W hj hk => ?_) _ (h0 _ _) ⟨hL, hD⟩).mono ?_
  · obtain ⟨hl, hd⟩ := hk
    have hy := run_yield (P := P) (args := encs x) hl (by rw [hrec]; exact hps x)
    simp only [hrec] at hy
    refine ⟨fn, _, assign, body, hy, ?_⟩
    refine roundIn_of_wpIn hfn (hassign _ pre x W _ hj (fun a1 W1 h01 hk1 => ?_))
    have hl1 := hk1.same _ _ hl rfl
    have hd1 := hk1.same _ _ hd rfl
    have hb : (Instr.beginRound (m + 1)).run P W1 = .ok () (W1.putObj (m + 1) (.loop (rec .busy))) := by
      have := run_beginRound (P := P) hl1 (by rw [hrec])
      rw [hrec] at this ⊢
      exact this
    refine ⟨_, hb, ?_⟩
    have hlt : m + 1 < W1.heap.size := (Array.getElem?_eq_some_iff.1 hl1).1
    have hl2 : (W1.putObj (m + 1) (.loop (rec .busy))).heap[m + 1]? = some (.loop (rec .busy)) := World.putObj_heap_same hlt
    have hd2 : (W1.putObj (m + 1) (.loop (rec .busy))).heap[m]? = some (.deferred (some [])) := (World.putObj_heap_other (by omega)).trans hd1
    refine wpIn_mono (hbody _ pre x a1 _ (hJ0 _ _ _ _ _ _ _ (by omega) hl1 rfl h01)) ?_
    rintro e a3 W3 ⟨rfl, hko, hj1⟩
    have hl3 := hko.same _ _ hl2 rfl
    have hd3 := hko.same _ _ hd2 rfl
    have hend : (Instr.endRound (m + 1) none).run P W3 = .ok (.bool true) (W3.putObj (m + 1) (.loop (rec .ready))) := by
      have := run_endRound (P := P) none hl3
      rw [hrec] at this ⊢
      exact this
    exact ⟨_, _, hend, rfl, hJ1 _ _ _ _ _ (by omega) hl3 rfl hj1, World.putObj_heap_same (Array.getElem?_eq_some_iff.1 hl3).1, (World.putObj_heap_other (by omega)).trans hd3⟩
  · rintro e W2 ⟨⟨v, rfl⟩, xs, he, hl, hd⟩
    have hend : (Instr.endLoop (m + 1)).run P W2 = .ok none (W2.putObj (m + 1) (.loop (rec .exhausted))) := by
      have := run_endLoop (P := P) hl (by rw [hrec]; simp)
      rw [hrec] at this ⊢
      exact this
    exact ⟨none, _, hend, hdone m xs _ (hE _ _ _ _ _ (by omega) hl rfl he) ((World.putObj_heap_other (by omega)).trans hd) (by omega)⟩
end Go.Proofs.Ytjhdjkanepdgiaa.Range

namespace Go.Proofs.Ytjhdjkanepdgiaa.Over
open Go Go.RowKit Go.Proofs.Ytjhdjkanepdgiaa.Pa Go.Proofs.YtjhdjkanepdgiaaW.PrintWords Go.Proofs.YtjhdjkanepdgiaaW.PrintLast Go.Proofs.YtjhdjkanepdgiaaW.PrintMore Go.Proofs.Ytjhdjkanepdgiaa.Due
attribute [local go_sem] Oper.semAt_some
set_option linter.unusedVariables false
set_option linter.unusedSimpArgs false

/-- The maker of the iterator. -/
theorem come_any (q : Nat) (now : Int) (w : World) : Calls Try.prog 38 #[.pointer (some ⟨q, 0, none⟩), .int .i64 now] w fun e w' => e = .returned (.func (.func 44) #[] #[.pointer (some ⟨w.heap.size, 0, none⟩), .pointer (some ⟨w.heap.size + 1, 0, none⟩)]) ∧ w' = (w.alloc (.cells #[.pointer (some ⟨q, 0, none⟩)] 65)).alloc (.cells #[.int .i64 now] 3) := by
  go_enter Try.func38, Try.ntmps38
  go_wp2
  go_ret
  exact ⟨rfl, rfl⟩
/-- A queue's blocks, no more, and that they are cells. -/
theorem que_tight {w : World} {q : Nat} {F : Nat → Prop} {s : List D} (k : Que w q F s) : ∃ G : Nat → Prop, Que w q G s ∧ (∀ k, G k → F k) ∧ ∀ k, G k → ∃ cells t, w.heap[k]? = some (.cells cells t (0, 0)) := by
  obtain ⟨h, hh, A, cap, h1, h2, h3, h4, h5⟩ := k
  refine ⟨fun k => k = q ∨ (Value.slice A h.length cap).ownBlock = some k, ⟨h, hh, A, cap, h1, h2, .inl rfl, fun k hk => ⟨.inr hk, (h4 k hk).2⟩, fun k hk => ?_⟩, fun k hk => ?_, fun k hk => ?_⟩
  · rcases hk with rfl | hk
    · exact h5 _ h3
    · exact h5 _ (h4 k hk).1
  · rcases hk with rfl | hk
    · exact h3
    · exact (h4 k hk).1
  · rcases hk with rfl | hk
    · exact ⟨_, _, h1⟩
    · obtain ⟨cells, hc⟩ := own_typed h2 k hk
      exact ⟨cells, _, hc⟩
theorem keeps_of_went {S : Nat → Prop} {w W : World} (h : Went S w W) (hc : ∀ k, S k → ∃ cells t, w.heap[k]? = some (.cells cells t (0, 0))) : KeepsOthers w W := by
  refine ⟨h.size, fun k o hk ho => ?_⟩
  have hlt : k < w.heap.size := (Array.getElem?_eq_some_iff.1 hk).1
  refine (h.kept.2 k hlt (fun hS => ?_)).trans hk
  obtain ⟨cells, t, he⟩ := hc k hS
  rw [hk] at he
  cases he
  cases ho
/-- How it lies between two rounds: s is left in the queue q, the numbers ids have come; o is where they are kept, bq and bn hold the queue's address and the time. -/
structure Mid (w : World) (q o bq bn : Nat) (now : Int) (s : List D) (ids : List Int) (W : World) : Prop where
  que : ∃ F : Nat → Prop, Que W q F s ∧ (∀ k, F k → w.heap.size ≤ k ∧ k ≠ o ∧ k ≠ bq ∧ k ≠ bn ∧ ∃ cells t, W.heap[k]? = some (.cells cells t (0, 0))) ∧
    ∃ v, W.heap[o]? = some (.cells #[v] 47 (0, 0)) ∧ Kd.R (Kd.int .i64) 3 W w.heap.size (fun k => ¬ F k ∧ k ≠ o ∧ k ≠ bq ∧ k ≠ bn) v ids
  hq : W.heap[bq]? = some (.cells #[.pointer (some ⟨q, 0, none⟩)] 65 (0, 0))
  hn : W.heap[bn]? = some (.cells #[.int .i64 now] 3 (0, 0))
  bel : Below w.heap.size w W
def lenAt (W : World) (q : Nat) : Nat := match W.cell? ⟨q, 0, none⟩ with | some (.slice _ n _) => n | _ => 0
theorem Mid.len {w W : World} {q o bq bn : Nat} {now : Int} {s : List D} {ids : List Int} (h : Mid w q o bq bn now s ids W) : lenAt W q = s.length := by
  obtain ⟨F, hF, _⟩ := h.que
  obtain ⟨A, cap, hc⟩ := hF.head
  unfold lenAt
  rw [hc]
/-- Only what is new, and what is no block of any of it, has turned. -/
theorem Mid.went {w W W' : World} {q o bq bn : Nat} {now : Int} {s : List D} {ids : List Int} (h : Mid w q o bq bn now s ids W) (hw : Below W.heap.size W W') (hs : w.heap.size ≤ W.heap.size) : Mid w q o bq bn now s ids W' := by
  obtain ⟨⟨F, h1, h2, v, h3, h4⟩, h5, h6, h7⟩ := h
  have lt : ∀ {k : Nat} {x : Obj}, W.heap[k]? = some x → k < W.heap.size := fun hk => (Array.getElem?_eq_some_iff.1 hk).1
  refine ⟨⟨F, h1.below hw, fun k hk => ?_, v, (hw.block o (lt h3)).trans h3, Kd.R_below h4 hw⟩, (hw.block bq (lt h5)).trans h5, (hw.block bn (lt h6)).trans h6, h7.trans (hw.mono hs)⟩
  obtain ⟨a, b, c, d, cells, t, e⟩ := h2 k hk
  exact ⟨a, b, c, d, cells, t, (hw.block k (lt e)).trans e⟩
/-- One is taken. -/
theorem Mid.taken {w W W' : World} {q o bq bn : Nat} {now : Int} {m : D} {t : List D} {ids : List Int} (h : Mid w q o bq bn now (m :: t) ids W) :
    ∃ F : Nat → Prop, Que W q F (m :: t) ∧ ∀ W', QTurned W q F t W' → Mid w q o bq bn now t ids W' ∧ KeepsOthers W W' := by
  obtain ⟨⟨F, h1, h2, v, h3, h4⟩, h5, h6, h7⟩ := h
  refine ⟨F, h1, fun W' ht => ?_⟩
  obtain ⟨F', k1, k2, k3⟩ := ht
  obtain ⟨G, g1, g2, g3⟩ := que_tight k1
  have lt : ∀ {k : Nat} {x : Obj}, W.heap[k]? = some x → k < W.heap.size := fun hk => (Array.getElem?_eq_some_iff.1 hk).1
  have hs := h7.size
  have hG : ∀ k, G k → F k ∨ W.heap.size ≤ k := fun k hk => k2 k (g2 k hk)
  have ho : ¬ F o := fun e => (h2 o e).2.1 rfl
  have hbq : ¬ F bq := fun e => (h2 bq e).2.2.1 rfl
  have hbn : ¬ F bn := fun e => (h2 bn e).2.2.2.1 rfl
  refine ⟨⟨⟨G, g1, fun k hk => ?_, v, k3.block h3 ho, ?_⟩, k3.block h5 hbq, k3.block h6 hbn, k3.below h7 hs (fun k hk => (h2 k hk).1)⟩, keeps_of_went k3 (fun k hk => (h2 k hk).2.2.2.2)⟩
  · rcases hG k hk with e | e
    · exact ⟨(h2 k e).1, (h2 k e).2.1, (h2 k e).2.2.1, (h2 k e).2.2.2.1, g3 k hk⟩
    · have a1 := lt h3
      have a2 := lt h5
      have a3 := lt h6
      exact ⟨Nat.le_trans hs e, by omega, by omega, by omega, g3 k hk⟩
  · refine Kd.R_mono (Kd.R_step (Kd.R_bound h4) (fun k hk hlt => k3.kept.2 k hlt (fun e => hk.1.1 e))) (fun k hk => ⟨fun e => ?_, hk.1.2⟩)
    rcases hG k e with e2 | e2
    · exact hk.1.1 e2
    · have := hk.2.2.1; omega
theorem Mid.putObj {w W : World} {q o bq bn : Nat} {now : Int} {s : List D} {ids : List Int} (h : Mid w q o bq bn now s ids W) (l : Nat) (x x' : Obj) (hl : w.heap.size ≤ l) (hW : W.heap[l]? = some x) (hx : x.isCells = false) : Mid w q o bq bn now s ids (W.putObj l x') := by
  obtain ⟨⟨F, h1, h2, v, h3, h4⟩, h5, h6, h7⟩ := h
  have hne : ∀ (k : Nat) (o2 : Obj), W.heap[k]? = some o2 → o2.isCells = true → (W.putObj l x').heap[k]? = some o2 := fun k o2 h k2 => by
    rw [World.putObj_heap_other (fun e => by subst e; rw [hW] at h; cases h; rw [hx] at k2; cases k2)]
    exact h
  have hgr := grownBy_putObj' W l x'
  have hF : ∀ k, F k → some k ≠ some l := fun k hk e => by
    obtain ⟨_, _, _, _, cells, t, e2⟩ := h2 k hk
    cases e
    rw [hW] at e2; cases e2; cases hx
  have hw : Went (fun k => k = l) W (W.putObj l x') := ⟨hgr.os, hgr.tape, hgr.output, hgr.size, fun k hk hne => hgr.block k hk (fun e => hne (by cases e; rfl))⟩
  refine ⟨⟨F, h1.kept hw (fun k hk e => hF k hk (by rw [e])), fun k hk => ?_, v, hne _ _ h3 rfl, ?_⟩, hne _ _ h5 rfl, hne _ _ h6 rfl, ?_⟩
  · obtain ⟨a, b, c, d, cells, t, e⟩ := h2 k hk
    exact ⟨a, b, c, d, cells, t, hne _ _ e rfl⟩
  · refine Kd.R_mono (Kd.R_step (Kd.R_bound h4) (fun k hk hlt => hgr.block k hlt (fun e => ?_))) (fun k hk => hk.1)
    obtain ⟨_, _, _, qq, _, cells, hc⟩ := hk
    cases e
    rw [hW] at hc; cases hc; cases hx
  · exact hw.below h7 h7.size (fun k hk => by subst hk; exact hl)
end Go.Proofs.Ytjhdjkanepdgiaa.Over

namespace Go.Proofs.Ytjhdjkanepdgiaa.Over
open Go Go.RowKit Go.Proofs.Ytjhdjkanepdgiaa.Pa Go.Proofs.YtjhdjkanepdgiaaW.PrintWords Go.Proofs.YtjhdjkanepdgiaaW.PrintLast Go.Proofs.YtjhdjkanepdgiaaW.PrintMore Go.Proofs.Ytjhdjkanepdgiaa.Due
attribute [local go_sem] Oper.semAt_some
set_option linter.unusedVariables false
set_option linter.unusedSimpArgs false

def comeB (now : Int) (d : D) : Bool := decide (d.f0 ≤ now)
theorem take_while {S : List D} {now : Int} {k : Nat} (hk : k ≤ S.length) (h1 : ∀ j (hj : j < S.length), j < k → S[j].f0 ≤ now) (h2 : ∀ hj : k < S.length, now < S[k].f0) : S.takeWhile (comeB now) = S.take k := by
  induction k generalizing S with
  | zero =>
    cases S with
    | nil => rfl
    | cons d r =>
      have := h2 (by simp)
      rw [List.takeWhile_cons, List.take_zero]
      have hd : comeB now d = false := decide_eq_false (by simp at this; omega)
      rw [hd]; rfl
  | succ k ih =>
    cases S with
    | nil => simp at hk
    | cons d r =>
      have h0 := h1 0 (by simp) (by omega)
      have hd : comeB now d = true := decide_eq_true (by simpa using h0)
      rw [List.takeWhile_cons, hd, List.take_succ_cons]
      simp only [if_true]
      rw [ih (by simpa using hk) (fun j hj hlt => by have := h1 (j + 1) (by simp; omega) (by omega); simpa using this) (fun hj => by have := h2 (by simp; omega); simpa using this)]
set_option maxRecDepth 100000 in
set_option maxHeartbeats 16000000 in
theorem iter_come (n : Nat) (hn : 4 ≤ n) (l q o bq bn : Nat) (now : Int) (w : World) (S : List D) (hS : S.length ≤ 1099511627775) (K : World → Prop) (hK : ∀ A B, K A → KeepsOthers A B → K B)
    (hY : ∀ k (hk : k < S.length) W, Mid w q o bq bn now (S.drop (k + 1)) ((S.take k).map (·.f1)) W → K W → (∀ j (hj : j < S.length), j ≤ k → S[j].f0 ≤ now) →
      YieldAt Fence.wide (n - 1) Try.prog l #[.agg #[.int .i64 S[k].f0, .int .i64 S[k].f1]] W fun e W' => e = .returned (.bool true) ∧ Mid w q o bq bn now (S.drop (k + 1)) ((S.take (k + 1)).map (·.f1)) W' ∧ K W')
    (W : World) (h0 : Mid w q o bq bn now S [] W) (k0 : K W) :
    CallsIn Fence.wide n Try.prog 44 #[.func (.yield l) #[] #[], .pointer (some ⟨bq, 0, none⟩), .pointer (some ⟨bn, 0, none⟩)] W fun e W' => (∃ v, e = .returned v) ∧ (∃ t, Mid w q o bq bn now t ((S.takeWhile (comeB now)).map (·.f1)) W') ∧ K W' := by
  refine callsIn_of_wp Try.func44 rfl trivial ?_ rfl
  simp only [Try.ntmps44, List.size_toArray, List.length_cons, List.length_nil, Nat.reduceAdd, Nat.reduceSub, Array.replicate_succ, Array.replicate_zero, List.push_toArray, List.append_toArray, List.nil_append, List.cons_append]
  gi_wp2
  have H0 := Aside0.mk (And.intro h0 k0)
  have HY := Aside0.mk hY
  have HK := Aside0.mk hK
  clear h0 k0 hY hK
  gi_loopw [5] (fun _ wr => ∃ k : Nat, k ≤ S.length ∧ Aside0 (Mid w q o bq bn now (S.drop k) ((S.take k).map (·.f1)) wr) ∧ Aside0 (K wr) ∧ Aside0 (∀ j (hj : j < S.length), j < k → S[j].f0 ≤ now)) (fun _ wr => lenAt wr q)
  case atStart => exact ⟨0, by omega, ⟨H0.out.1⟩, ⟨H0.out.2⟩, ⟨fun j hj h => absurd h (by omega)⟩⟩
  case round =>
    clear H0
    obtain ⟨k, hk, HM, HKw, HJ⟩ := hrel
    have hq0 : wr.cell? ⟨bq, 0, none⟩ = some (.pointer (some ⟨q, 0, none⟩)) := by rw [cell_of_row _ _ _ _ _ _ HM.out.hq]; rfl
    have hn0 : wr.cell? ⟨bn, 0, none⟩ = some (.int .i64 now) := by rw [cell_of_row _ _ _ _ _ _ HM.out.hn]; rfl
    by_cases hgo : ∃ hlt : k < S.length, S[k].f0 ≤ now
    · obtain ⟨hlt, hle⟩ := hgo
      have hd : S.drop k = S[k] :: S.drop (k + 1) := List.drop_eq_getElem_cons hlt
      have HM2 : Mid w q o bq bn now (S[k] :: S.drop (k + 1)) ((S.take k).map (·.f1)) wr := by rw [← hd]; exact HM.out
      obtain ⟨F, hF, hT⟩ := Mid.taken (W' := wr) HM2
      have ht := qtake_some q F S[k] (S.drop (k + 1)) now wr hF hle (by rw [List.length_drop]; omega)
      have HT := Aside0.mk hT
      have HLE := Aside0.mk hle
      obtain ⟨m, hm⟩ : ∃ m, m = S[k] := ⟨_, rfl⟩
      have HMM := Aside0.mk hm
      rw [← hm] at ht
      clear hF hd HM2 hT hm hle
      gi_wp2_with (refine ⟨trivial, fun _ => by omega, ?_⟩; refine (callsIn_wide.2 ht).mono ?_; rintro e w1 ⟨rfl, hb⟩; have HB := Aside0.mk hb; clear hb)
      obtain ⟨hM1, hk1⟩ := HT.out _ HB.out
      have hM2 : Mid w q o bq bn now (S.drop (k + 1)) ((S.take k).map (·.f1)) (w1.alloc (.cells #[.int .i64 m.f0, .int .i64 m.f1] 72)) := hM1.went ((Below.refl _ _).alloc (Nat.le_refl _) _) hM1.bel.size
      have hk2 : K (w1.alloc (.cells #[.int .i64 m.f0, .int .i64 m.f1] 72)) := HK.out _ _ (HK.out _ _ HKw.out hk1) (KeepsOthers.alloc _ _)
      have hJ2 : ∀ j (hj : j < S.length), j ≤ k → S[j].f0 ≤ now := fun j hj h => by
        rcases Nat.lt_or_ge j k with h1 | h1
        · exact HJ.out j hj h1
        · obtain rfl : j = k := by omega
          exact HLE.out
      have hy := HY.out k hlt _ hM2 hk2 hJ2
      rw [← HMM.out] at hy
      obtain ⟨fn, tmps, assign, body, hy, hR⟩ := hy
      have HJ2 := Aside0.mk hJ2
      clear hM1 hk1 hM2 hk2 hJ2 ht
      gi_wp2
      rw [hy, Oper.uponIn_round]
      refine ⟨fun _ => by omega, ?_⟩
      refine hR.mono ?_
      rintro e W3 ⟨rfl, hM3, hK3⟩
      have H3 := Aside0.mk (And.intro hM3 hK3)
      clear hM3 hK3 hR hy
      gi_wp2
      refine ⟨⟨k + 1, by omega, ⟨H3.out.1⟩, ⟨H3.out.2⟩, ⟨fun j hj h => HJ2.out j hj (by omega)⟩⟩, ?_⟩
      rw [H3.out.1.len, HM.out.len, List.length_drop, List.length_drop]
      omega
    · obtain ⟨F, hF, _⟩ := HM.out.que
      have ht := qtake_none q F (S.drop k) now wr hF (fun m t e => by
        have hlt : k < S.length := by
          have := congrArg List.length e
          simp at this; omega
        have hm : m = S[k] := by
          have := congrArg (fun x => x[0]?) e
          simpa [hlt] using this.symm
        rw [hm]
        exact Int.not_le.1 (fun h => hgo ⟨hlt, h⟩))
      have HGO := Aside0.mk hgo
      clear hF hgo
      gi_wp2_with (refine ⟨trivial, fun _ => by omega, ?_⟩; refine (callsIn_wide.2 ht).mono ?_; rintro e w1 ⟨rfl, hb⟩; have HB := Aside0.mk hb; clear hb)
      gi_wp2
      refine ⟨by simp, ?_⟩
      gi_wp2
      refine ⟨by simp, ?_⟩
      gi_wp2
      have hM2 : Mid w q o bq bn now (S.drop k) ((S.take k).map (·.f1)) (w1.alloc (.cells #[.int .i64 0, .int .i64 0] 72)) := HM.out.went (HB.out.alloc HB.out.size _) HM.out.bel.size
      have hk2 : K (w1.alloc (.cells #[.int .i64 0, .int .i64 0] 72)) := HK.out _ _ (HK.out _ _ HKw.out (keeps_of_went (Went.of_below HB.out (fun _ => False)) (fun k h => h.elim))) (KeepsOthers.alloc _ _)
      refine ⟨⟨_, results_none rfl _ _ _⟩, ⟨S.drop k, ?_⟩, hk2⟩
      rw [take_while hk HJ.out (fun hj => Int.not_le.1 (fun h => HGO.out ⟨hj, h⟩))]
      exact hM2
end Go.Proofs.Ytjhdjkanepdgiaa.Over

namespace Go.Proofs.Ytjhdjkanepdgiaa.Over
open Go Go.RowKit Go.Proofs.Ytjhdjkanepdgiaa.Pa Go.Proofs.YtjhdjkanepdgiaaW.PrintWords Go.Proofs.YtjhdjkanepdgiaaW.PrintLast Go.Proofs.YtjhdjkanepdgiaaW.PrintMore Go.Proofs.Ytjhdjkanepdgiaa.Due
set_option linter.unusedVariables false
set_option linter.unusedSimpArgs false

theorem wpListIn_append_at {F : Fence} {n : Nat} {P : Program} {W : World} {ops : Array Oper} {rest : List Oper} {o : Oper} {a : Act} {Q : Exit → Act → World → Prop} (base : Nat) (hg : o.guard = none) (s x : Operand) (t e : TypeId) (z : Value) (size bytes : Nat)
    (ho : o.op = .call { callee := .builtin .append, args := #[s, x], argTypes := #[t, t] })
    (ht : P.underlying t = some (.slice e)) (hinfo : (P.info? e).map (fun i => (i.zero, i.size, i.bytes)) = some (some z, size, bytes)) (hz : z.cells.size = size) (hs0 : 0 < size) (hb0 : 0 < bytes)
    (v : Value) (k : Nat) (xs ys : List Value) (hs : a.eval s = v) (hx : a.eval x = .slice (some ⟨W.heap.size, 0, none⟩) 1 1) (hys : ys.length = size) (h1 : ∀ u ∈ ys, u.oneCell' = true)
    (HO : W.ownsRow base e size v k xs) (hbase : base ≤ W.heap.size) (hl : (k + 1) * bytes ≤ 140737488355328)
    (h : ∀ v1 w1, w1.ownsRow base e size v1 (k + 1) (xs ++ ys) → (W.alloc (.cells ys.toArray e)).grownBy w1 v.ownBlock → (v1.ownBlock = v.ownBlock ∨ ∃ b, v1.ownBlock = some b ∧ W.heap.size ≤ b) → wpListIn F n P ops Q rest (a.put o.dst v1) w1) :
    wpListIn F n P ops Q (o :: rest) a (W.alloc (.cells ys.toArray e)) := by
  obtain ⟨i0, hi, hzz⟩ := Option.map_eq_some_iff.1 hinfo
  simp only [Prod.mk.injEq] at hzz
  obtain ⟨hz0, hz1, hz2⟩ := hzz
  have hlen : k + 1 ≤ 140737488355328 := Nat.le_trans (Nat.le_mul_of_pos_right _ hb0) hl
  refine wpListIn_plain hg fun K hK' => ?_
  obtain ⟨v1, w1, hrun, hown, hgr, _, hat⟩ := run_append_own_at (P := P) (W.alloc (.cells ys.toArray e)) base t o.type e i0 z size bytes ht hi hz0 hz1 hz2 hz hs0 v k xs (HO.alloc _) ⟨W.heap.size, 0, none⟩ 1 1 ys (by rw [hys]; simp)
    (by simpa using World.news_of_block (cs := ys.toArray) (t := e) (fr := (0, 0)) (heap_alloc_new W (.cells ys.toArray e))) h1 (by simp only [maxLen]; omega) hl (by simp; omega)
  unfold Oper.wpIn
  refine ⟨?_, ?_⟩
  · simp [Oper.about, ho, resolve, Target.leads, Sem.run_pure]
  · rw [Oper.semAt_plain F _ _ (by rw [ho]; intro c hc'; cases hc')]
    simp [execOp, ho, resolve, invoke, builtin, hs, hx, hrun, Result.andThen]
    refine hK' _ _ (h v1 w1 hown hgr ?_)
    rcases hat with hat | hat
    · exact .inl hat
    · exact .inr ⟨_, hat, by simp⟩
theorem info3 : (Try.prog.info? 3).map (fun i => (i.zero, i.size, i.bytes)) = some (some (.int .i64 0), 1, 8) := by kernel_rfl
theorem Mid.appended {w W w1 : World} {q o bq bn : Nat} {now y : Int} {s : List D} {ids : List Int} {F : Nat → Prop} {v v1 : Value} {tmp : Obj}
    (hwo : w.heap.size ≤ o) (hM : Mid w q o bq bn now s ids W) (hQ : Que W q F s) (hF : ∀ k, F k → w.heap.size ≤ k ∧ k ≠ o ∧ k ≠ bq ∧ k ≠ bn ∧ ∃ cells t, W.heap[k]? = some (.cells cells t (0, 0)))
    (hv : W.heap[o]? = some (.cells #[v] 47 (0, 0))) (hR : Kd.R (Kd.int .i64) 3 W w.heap.size (fun k => ¬ F k ∧ k ≠ o ∧ k ≠ bq ∧ k ≠ bn) v ids)
    (hown : w1.ownsRow w.heap.size 3 1 v1 (ids.length + 1) (encs (Value.int .i64) ids ++ [.int .i64 y])) (hgr : (W.alloc tmp).grownBy w1 v.ownBlock) (hat : v1.ownBlock = v.ownBlock ∨ ∃ b, v1.ownBlock = some b ∧ W.heap.size ≤ b) :
    KeepsOthers W (w1.setCell ⟨o, 0, none⟩ v1) ∧ Mid w q o bq bn now s (ids ++ [y]) (w1.setCell ⟨o, 0, none⟩ v1) ∧ Boxed w1 o 47 v := by
  have hb : Boxed W o 47 v := hv
  have hrow := Kd.own_of_R hR
  obtain ⟨p1, p2, p3, p4, p5⟩ := hb.appended (tmp := tmp) (by decide) hrow hM.bel.size hwo hown hgr
  have lt : ∀ {k : Nat} {x : Obj}, W.heap[k]? = some x → k < W.heap.size := fun hk => (Array.getElem?_eq_some_iff.1 hk).1
  have hgr2 : W.grownBy w1 v.ownBlock := World.grownBy.trans (World.grownBy_alloc W _ _) hgr
  have hw : Went (fun k => some k = v.ownBlock ∨ k = o) W (w1.setCell ⟨o, 0, none⟩ v1) := by
    refine ⟨hgr2.os, hgr2.tape, hgr2.output, ⟨by simpa [World.setCell] using hgr2.size, fun k hk hne => ?_⟩⟩
    exact (Below.heap_setCell w1 ⟨o, 0, none⟩ v1 k (fun e => hne (.inr e))).trans (hgr2.block k hk (fun e => hne (.inl e)))
  have hnF : ∀ k, F k → ¬ (some k = v.ownBlock ∨ k = o) := fun k hk e => by
    rcases e with e | e
    · exact (hR.1 k e.symm).1 hk
    · exact (hF k hk).2.1 e
  have hbqo : bq ≠ o := fun e => by have := hM.hq; rw [e, hv] at this; cases this
  have hbno : bn ≠ o := fun e => by have := hM.hn; rw [e, hv] at this; cases this
  refine ⟨p4, ⟨⟨F, hQ.kept hw hnF, fun k hk => ?_, v1, p2, ?_⟩, hw.block hM.hq (fun e => ?_), hw.block hM.hn (fun e => ?_), hM.bel.trans p5⟩, p1⟩
  · obtain ⟨a, b, c, d, cells, t, e⟩ := hF k hk
    exact ⟨a, b, c, d, cells, t, hw.block e (hnF k hk)⟩
  · have he : encs (Value.int .i64) ids ++ [Value.int .i64 y] = encs (Value.int .i64) (ids ++ [y]) := by rw [encs_append]; rfl
    rw [he] at p3
    refine Kd.R_of_own (by rw [List.length_append, List.length_singleton]; exact p3) (fun k hk => ?_)
    rcases hat with e | ⟨b, e, hle⟩
    · exact hR.1 k (e ▸ hk)
    · rw [e] at hk
      injection hk with hk
      subst hk
      have hO := lt hv
      have hQ1 := lt hM.hq
      have hN1 := lt hM.hn
      exact ⟨fun hf => by have := hQ.lt b hf; omega, by omega, by omega, by omega⟩
  · rcases e with e | e
    · exact (hR.1 bq e.symm).2.2.1 rfl
    · exact hbqo e
  · rcases e with e | e
    · exact (hR.1 bn e.symm).2.2.2 rfl
    · exact hbno e
theorem Mid.alloc {w W : World} {q o bq bn : Nat} {now : Int} {s : List D} {ids : List Int} (h : Mid w q o bq bn now s ids W) (x : Obj) : Mid w q o bq bn now s ids (W.alloc x) := h.went ((Below.refl _ _).alloc (Nat.le_refl _) _) h.bel.size
end Go.Proofs.Ytjhdjkanepdgiaa.Over
