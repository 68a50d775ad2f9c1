/- What the queue's own methods come to: a queue as the sorted list of what it holds. No conditions beside those that each contract states. -/
import Derived.Test.YtghgjjpddemjkaaDueHeap
import Derived.Test.YtghgjjpddemjkaaDueDel
namespace Go.Proofs.Ytghgjjpddemjkaa.Due
open Go.RowKit Go.Proofs.Ytghgjjpddemjkaa.Pa Go.Proofs.YtghgjjpddemjkaaW.PrintWords Go.Proofs.YtghgjjpddemjkaaW.PrintLast Go.Proofs.YtghgjjpddemjkaaW.PrintMore
set_option linter.unusedVariables false

theorem Que.kept {w W : World} {q : Nat} {F S : Nat → Prop} {s : List D} (k : Que w q F s) (hw : Went S w W) (hn : ∀ k, F k → ¬ S k) : Que W q F s := by
  obtain ⟨h, hh, hR⟩ := k
  exact ⟨h, hh, hR.kept hw hn⟩
theorem Que.below {w W : World} {q : Nat} {F : Nat → Prop} {s : List D} (k : Que w q F s) (hb : Below w.heap.size w W) : Que W q F s := k.kept (Went.of_below hb (fun _ => False)) (fun _ _ h => h)
theorem QTurned.after {w w1 w2 : World} {q : Nat} {F F1 : Nat → Prop} {s : List D} (hF : ∀ k, F1 k → F k ∨ w.heap.size ≤ k) (hW : Went F w w1) (k : QTurned w1 q F1 s w2) : QTurned w q F s w2 := by
  obtain ⟨F2, k1, k2, k3⟩ := k
  refine ⟨F2, k1, fun k hk => ?_, hW.trans k3 (fun _ h => h) hF⟩
  rcases k2 k hk with h | h
  · exact hF k h
  · exact .inr (Nat.le_trans hW.size h)
theorem QTurned.behind {w w1 w2 : World} {q : Nat} {F : Nat → Prop} {s : List D} (hb : Below w.heap.size w w1) (k : QTurned w1 q F s w2) : QTurned w q F s w2 :=
  k.after (fun _ h => .inl h) (Went.of_below hb F)
theorem QTurned.then_below {w w1 w2 : World} {q : Nat} {F : Nat → Prop} {s : List D} (k : QTurned w q F s w1) (hb : Below w1.heap.size w1 w2) : QTurned w q F s w2 := by
  obtain ⟨F2, k1, k2, k3⟩ := k
  exact ⟨F2, k1.below hb, k2, k3.trans (Went.of_below hb (fun _ => False)) (fun _ h => h) (fun _ h => h.elim)⟩
theorem ret_int {k : IntKind} {a b : Int} (h : a = b) : Ending.returned (.int k a) = .returned (.int k b) := by rw [h]
/-- A box of two cells, laid ahead of a call. -/
theorem box2 {w w1 : World} {a b : Value} {e : TypeId} (hb : Below (w.alloc (.cells #[a, b] e)).heap.size (w.alloc (.cells #[a, b] e)) w1) :
    w1.cell? ⟨w.heap.size, 0, none⟩ = some a ∧ w1.cell? ⟨w.heap.size, 1, none⟩ = some b ∧ w1.frozen? ⟨w.heap.size, 0, none⟩ = false ∧ w1.frozen? ⟨w.heap.size, 1, none⟩ = false ∧ w.heap.size < w1.heap.size := by
  have h : w1.heap[w.heap.size]? = some (.cells #[a, b] e (0, 0)) := (hb.block _ (by simp)).trans (heap_alloc_new w _)
  exact ⟨by rw [cell_of_row _ _ _ _ _ _ h]; rfl, by rw [cell_of_row _ _ _ _ _ _ h]; rfl, by simp [World.frozen?, h], by simp [World.frozen?, h], (Array.getElem?_eq_some_iff.1 h).1⟩
theorem fin2 {w w1 : World} {o : Obj} {u v : Value} (o2 : Obj) (hb : Below (w.alloc o).heap.size (w.alloc o) w1) : Below w.heap.size w (((w1.setCell ⟨w.heap.size, 0, none⟩ u).setCell ⟨w.heap.size, 1, none⟩ v).alloc o2) := by
  have h1 : Below w.heap.size w w1 := below_then ((Below.refl _ _).alloc (Nat.le_refl _) _) (by simp) hb
  have h2 := (h1.setCell (p := ⟨w.heap.size, 0, none⟩) (Nat.le_refl _) u).setCell (p := ⟨w.heap.size, 1, none⟩) (Nat.le_refl _) v
  exact h2.alloc h2.size o2
theorem Que.lt {w : World} {q : Nat} {F : Nat → Prop} {s : List D} (k : Que w q F s) : ∀ k, F k → k < w.heap.size := by
  obtain ⟨h, hh, A, cap, h1, h2, h3, h4, h5⟩ := k
  exact h5
theorem box_kept {w w1 w2 : World} {q : Nat} {F : Nat → Prop} {s : List D} {a b : Value} {o : Obj} (b0 : w1.cell? ⟨w.heap.size, 0, none⟩ = some a) (b1 : w1.cell? ⟨w.heap.size, 1, none⟩ = some b) (b2 : w1.frozen? ⟨w.heap.size, 0, none⟩ = false) (b3 : w1.frozen? ⟨w.heap.size, 1, none⟩ = false)
    (ht : QTurned (w1.alloc o) q F s w2) (hF : ∀ k, F k → k < w.heap.size) :
    w2.cell? ⟨w.heap.size, 0, none⟩ = some a ∧ w2.cell? ⟨w.heap.size, 1, none⟩ = some b ∧ w2.frozen? ⟨w.heap.size, 0, none⟩ = false ∧ w2.frozen? ⟨w.heap.size, 1, none⟩ = false := by
  obtain ⟨F', h1, h2, h3⟩ := ht
  have hlt : w.heap.size < w1.heap.size := World.block_lt_of_cell? w1 _ b0
  have hb : w2.heap[w.heap.size]? = w1.heap[w.heap.size]? := (h3.kept.2 _ (by simp; omega) (fun h => by have := hF _ h; omega)).trans (Below.heap_alloc w1 o _ hlt)
  exact ⟨(World.cell?_of_block (a := ⟨w.heap.size, 0, none⟩) hb).trans b0, (World.cell?_of_block (a := ⟨w.heap.size, 1, none⟩) hb).trans b1, (World.frozen?_of_block (a := ⟨w.heap.size, 0, none⟩) hb).trans b2, (World.frozen?_of_block (a := ⟨w.heap.size, 1, none⟩) hb).trans b3⟩
theorem fin3 {w W w2 : World} {q : Nat} {F : Nat → Prop} {s : List D} {u v : Value} (hb : Below w.heap.size w W) (hlt : w.heap.size < W.heap.size) (hF : ∀ k, F k → k < w.heap.size) (ht : QTurned W q F s w2) :
    QTurned w q F s ((w2.setCell ⟨w.heap.size, 0, none⟩ u).setCell ⟨w.heap.size, 1, none⟩ v) := by
  obtain ⟨F', h1, h2, h3⟩ := ht
  have hs : Went (fun k => k = w.heap.size) w2 ((w2.setCell ⟨w.heap.size, 0, none⟩ u).setCell ⟨w.heap.size, 1, none⟩ v) := ((Went.refl _ w2).setq _ _).setq _ _
  refine ⟨F', h1.kept hs (fun k hk e => ?_), fun k hk => ?_, ?_⟩
  · subst e
    rcases h2 _ hk with h | h
    · have := hF _ h; omega
    · omega
  · rcases h2 k hk with h | h
    · exact .inl h
    · exact .inr (by omega)
  · exact ((Went.of_below hb F).trans h3 (fun _ h => h) (fun _ h => .inl h)).trans hs (fun _ h => h) (fun k hk => .inr (by omega))
theorem Que.head {w : World} {q : Nat} {F : Nat → Prop} {s : List D} (k : Que w q F s) : ∃ A cap, w.cell? ⟨q, 0, none⟩ = some (.slice A s.length cap) := by
  obtain ⟨h, hh, hR⟩ := k
  rw [← hh.length]
  exact hR.head

theorem qlen_any (q : Nat) (F : Nat → Prop) (s : List D) (w : World) (hQ : Que w q F s) : Calls Try.prog 11 #[.pointer (some ⟨q, 0, none⟩)] w fun e w' => e = .returned (.int .i64 s.length) ∧ w = w' := by
  obtain ⟨A, cap, hc⟩ := hQ.head
  clear hQ
  go_enter Try.func11, Try.ntmps11
  go_wp2
  go_ret
  exact ⟨rfl, rfl⟩
theorem qlen_nil (w : World) : Calls Try.prog 11 #[.pointer none] w fun e w' => e = .returned (.int .i64 0) ∧ w = w' := by
  go_enter Try.func11, Try.ntmps11
  go_wp2
  go_ret
  exact ⟨rfl, rfl⟩
set_option maxRecDepth 100000 in
set_option maxHeartbeats 4000000 in
theorem qput_any (q : Nat) (F : Nat → Prop) (s : List D) (x : D) (w : World) (hQ : Que w q F s) (hn : s.length ≤ 1099511627775) :
    Calls Try.prog 9 #[.pointer (some ⟨q, 0, none⟩), .agg #[.int .i64 x.f0, .int .i64 x.f1]] w fun e w' => e = .returned (.tuple #[]) ∧ QTurned w q F (ins x s) w' := by
  have hp := fun W (hb : Below w.heap.size w W) => hpush_any q F s x W (hQ.below hb) hn
  clear hQ
  go_enter Try.func9, Try.ntmps9
  go_wp2
  go_region_with (go_at_call 17; refine (hp _ (((Below.refl _ _).alloc (Nat.le_refl _) _).drew)).mono ?_; rintro e w1 ⟨rfl, ht⟩; have HT := Aside0.mk ht; clear ht hp)
  go_end0
  exact ⟨rfl, HT.out.behind (((Below.refl _ _).alloc (Nat.le_refl _) _).drew)⟩
theorem qput_nil (x : D) (w : World) : Calls Try.prog 9 #[.pointer none, .agg #[.int .i64 x.f0, .int .i64 x.f1]] w fun e w' => e = .returned (.tuple #[]) ∧ Below w.heap.size w w' := by
  go_enter Try.func9, Try.ntmps9
  go_wp2
  go_end0
  exact ⟨rfl, (Below.refl _ _).alloc (Nat.le_refl _) _⟩
set_option maxRecDepth 100000 in
theorem qfirst_none (q : Nat) (F : Nat → Prop) (w : World) (hQ : Que w q F []) :
    Calls Try.prog 12 #[.pointer (some ⟨q, 0, none⟩)] w fun e w' => e = .returned (.tuple #[.agg #[.int .i64 0, .int .i64 0], .bool false]) ∧ Below w.heap.size w w' := by
  have hl := fun W (hb : Below w.heap.size w W) => qlen_any q F [] W (hQ.below hb)
  clear hQ
  go_enter Try.func12, Try.ntmps12
  go_wp2_with (go_at_call 11; refine (hl _ ((Below.refl _ _).alloc (Nat.le_refl _) _)).mono ?_; rintro e w1 ⟨rfl, rfl⟩; clear hl)
  exact bodyPost_ret (v := .tuple #[.agg #[.int .i64 0, .int .i64 0], .bool false]) (by simp [results, Try.results12, go_sem]) rfl ⟨rfl, (Below.refl _ _).alloc (Nat.le_refl _) _⟩
set_option maxRecDepth 100000 in
theorem qfirst_nil (w : World) :
    Calls Try.prog 12 #[.pointer none] w fun e w' => e = .returned (.tuple #[.agg #[.int .i64 0, .int .i64 0], .bool false]) ∧ Below w.heap.size w w' := by
  go_enter Try.func12, Try.ntmps12
  go_wp2_with (go_at_call 11; refine (qlen_nil _).mono ?_; rintro e w1 ⟨rfl, rfl⟩)
  exact bodyPost_ret (v := .tuple #[.agg #[.int .i64 0, .int .i64 0], .bool false]) (by simp [results, Try.results12, go_sem]) rfl ⟨rfl, (Below.refl _ _).alloc (Nat.le_refl _) _⟩
theorem Que.first {w : World} {q : Nat} {F : Nat → Prop} {s : List D} {m : D} (k : Que w q F (m :: s)) : ∃ g cap, w.cell? ⟨q, 0, none⟩ = some (.slice (some ⟨g, 0, none⟩) (s.length + 1) cap) ∧ w.cell? ⟨g, 0, none⟩ = some (.int .i64 m.f0) ∧ w.cell? ⟨g, 1, none⟩ = some (.int .i64 m.f1) ∧ q < w.heap.size ∧ g < w.heap.size := by
  obtain ⟨h, hh, hR⟩ := k
  obtain ⟨e0, hl⟩ := hh.first
  have hlen := hh.length
  obtain ⟨g, cap, hH, hA, hFq, hFg, hgq, hlt⟩ := hR.lies hl
  obtain ⟨c0, c1, _, _⟩ := hA.cells 0 hl
  rw [e0] at c0 c1
  rw [hlen] at hH
  exact ⟨g, cap, hH.cell.1, c0, c1, hlt q hFq, hlt g hFg⟩
set_option maxRecDepth 100000 in
theorem qfirst_some (q : Nat) (F : Nat → Prop) (m : D) (s : List D) (w : World) (hQ : Que w q F (m :: s)) :
    Calls Try.prog 12 #[.pointer (some ⟨q, 0, none⟩)] w fun e w' => e = .returned (.tuple #[.agg #[.int .i64 m.f0, .int .i64 m.f1], .bool true]) ∧ Below w.heap.size w w' := by
  have hl := fun W (hb : Below w.heap.size w W) => qlen_any q F (m :: s) W (hQ.below hb)
  obtain ⟨g, cap, hc, c0, c1, hq, hg⟩ := hQ.first
  have hz : (((s.length + 1 : Nat) : Int) == 0) = false := beq_eq_false_iff_ne.2 (by omega)
  have hz2 : ((s.length : Int) + 1 == 0) = false := beq_eq_false_iff_ne.2 (by omega)
  clear hQ
  go_enter Try.func12, Try.ntmps12
  go_wp2_with (go_at_call 11; refine (hl _ ((Below.refl _ _).alloc (Nat.le_refl _) _)).mono ?_; rintro e w1 ⟨rfl, rfl⟩; clear hl)
  exact bodyPost_ret (v := .tuple #[.agg #[.int .i64 m.f0, .int .i64 m.f1], .bool true]) (by simp [results, Try.results12, go_sem]) rfl ⟨rfl, (Below.refl _ _).alloc (Nat.le_refl _) _⟩
set_option maxRecDepth 100000 in
set_option maxHeartbeats 4000000 in
theorem qtake_none (q : Nat) (F : Nat → Prop) (s : List D) (now : Int) (w : World) (hQ : Que w q F s) (hn : ∀ m t, s = m :: t → now < m.f0) :
    Calls Try.prog 10 #[.pointer (some ⟨q, 0, none⟩), .int .i64 now] w fun e w' => e = .returned (.tuple #[.agg #[.int .i64 0, .int .i64 0], .bool false]) ∧ Below w.heap.size w w' := by
  cases s with
  | nil =>
    have hf := fun W (hb : Below w.heap.size w W) => qfirst_none q F W (hQ.below hb)
    clear hQ hn
    go_enter Try.func10, Try.ntmps10
    go_wp2_with (go_at_call 12; refine (hf _ ((Below.refl _ _).alloc (Nat.le_refl _) _)).mono ?_; rintro e w1 ⟨rfl, hb⟩; have HB := Aside0.mk hb; obtain ⟨b0, b1, b2, b3, b4⟩ := box2 hb; clear hf hb)
    refine bodyPost_ret (v := .tuple #[.agg #[.int .i64 0, .int .i64 0], .bool false]) (by simp [results, Try.results10, b0, b1, b4, go_sem]) rfl ⟨rfl, ?_⟩
    exact fin2 _ HB.out
  | cons m t => 
    have hf := fun W (hb : Below w.heap.size w W) => qfirst_some q F m t W (hQ.below hb)
    have hlt : decide (now < m.f0) = true := decide_eq_true (hn m t rfl)
    clear hQ hn
    go_enter Try.func10, Try.ntmps10
    go_wp2_with (go_at_call 12; refine (hf _ ((Below.refl _ _).alloc (Nat.le_refl _) _)).mono ?_; rintro e w1 ⟨rfl, hb⟩; have HB := Aside0.mk hb; obtain ⟨b0, b1, b2, b3, b4⟩ := box2 hb; clear hf hb)
    refine bodyPost_ret (v := .tuple #[.agg #[.int .i64 0, .int .i64 0], .bool false]) (by simp [results, Try.results10, b0, b1, b4, go_sem]) rfl ⟨rfl, ?_⟩
    exact fin2 _ HB.out
set_option maxRecDepth 100000 in
set_option maxHeartbeats 8000000 in
theorem qtake_some (q : Nat) (F : Nat → Prop) (m : D) (t : List D) (now : Int) (w : World) (hQ : Que w q F (m :: t)) (hn : m.f0 ≤ now) (hl : t.length ≤ 1099511627775) :
    Calls Try.prog 10 #[.pointer (some ⟨q, 0, none⟩), .int .i64 now] w fun e w' => e = .returned (.tuple #[.agg #[.int .i64 m.f0, .int .i64 m.f1], .bool true]) ∧ QTurned w q F t w' := by
  have hf := fun W (hb : Below w.heap.size w W) => qfirst_some q F m t W (hQ.below hb)
  have hp := fun W (hb : Below w.heap.size w W) => hpop_any q F t m W (hQ.below hb) hl
  have ta := fun w => assert_due m.f0 m.f1 w
  have hlt : decide (now < m.f0) = false := decide_eq_false (by omega)
  have HF := Aside0.mk hQ.lt
  clear hQ hn
  go_enter Try.func10, Try.ntmps10
  go_wp2_with (first | (go_at_call 12; refine (hf _ ((Below.refl _ _).alloc (Nat.le_refl _) _)).mono ?_; rintro e w1 ⟨rfl, hb⟩; have HB := Aside0.mk hb; obtain ⟨b0, b1, b2, b3, b4⟩ := box2 hb; clear hf hb) | (go_at_call 18; refine (hp _ ((below_then ((Below.refl _ _).alloc (Nat.le_refl _) _) (by simp) HB.out).alloc (Nat.le_of_lt b4) _)).mono ?_; rintro e w2 ⟨rfl, ht⟩; have HT := Aside0.mk ht; obtain ⟨c0, c1, c2, c3⟩ := box_kept (w1 := w1) b0 b1 b2 b3 ht HF.out; clear hp ht))
  refine bodyPost_ret (v := .tuple #[.agg #[.int .i64 m.f0, .int .i64 m.f1], .bool true]) (by simp [results, Try.results10, c0, c1, go_sem]) rfl ⟨rfl, ?_⟩
  have hw1 : Below w.heap.size w w1 := below_then ((Below.refl _ _).alloc (Nat.le_refl _) _) (by simp) HB.out
  exact fin3 (hw1.alloc (Nat.le_of_lt b4) _) (by simp; omega) HF.out HT.out
theorem qtake_nil (now : Int) (w : World) :
    Calls Try.prog 10 #[.pointer none, .int .i64 now] w fun e w' => e = .returned (.tuple #[.agg #[.int .i64 0, .int .i64 0], .bool false]) ∧ Below w.heap.size w w' := by
  go_enter Try.func10, Try.ntmps10
  go_wp2_with (go_at_call 12; refine (qfirst_nil _).mono ?_; rintro e w1 ⟨rfl, hb⟩; have HB := Aside0.mk hb; obtain ⟨b0, b1, b2, b3, b4⟩ := box2 hb; clear hb)
  refine bodyPost_ret (v := .tuple #[.agg #[.int .i64 0, .int .i64 0], .bool false]) (by simp [results, Try.results10, b0, b1, b4, go_sem]) rfl ⟨rfl, ?_⟩
  exact fin2 _ HB.out
theorem qdrop_nil (id : Int) (w : World) : Calls Try.prog 15 #[.pointer none, .int .i64 id] w fun e w' => e = .returned (.int .i64 0) ∧ Below w.heap.size w w' := by
  go_enter Try.func15, Try.ntmps15
  go_wp2_with (go_at_call 11; refine (qlen_nil _).mono ?_; rintro e w1 ⟨rfl, rfl⟩)
  go_ret
  exact ⟨rfl, (Below.refl _ _).alloc (Nat.le_refl _) _⟩
theorem qdrop_none (q : Nat) (F : Nat → Prop) (id : Int) (w : World) (hQ : Que w q F []) : Calls Try.prog 15 #[.pointer (some ⟨q, 0, none⟩), .int .i64 id] w fun e w' => e = .returned (.int .i64 0) ∧ Below w.heap.size w w' := by
  have hl := fun W (hb : Below w.heap.size w W) => qlen_any q F [] W (hQ.below hb)
  clear hQ
  go_enter Try.func15, Try.ntmps15
  go_wp2_with (go_at_call 11; refine (hl _ ((Below.refl _ _).alloc (Nat.le_refl _) _)).mono ?_; rintro e w1 ⟨rfl, rfl⟩; clear hl)
  go_ret
  exact ⟨rfl, (Below.refl _ _).alloc (Nat.le_refl _) _⟩
set_option maxRecDepth 100000 in
set_option maxHeartbeats 8000000 in
theorem qdrop_some (q : Nat) (F : Nat → Prop) (m : D) (t : List D) (id : Int) (w : World) (hQ : Que w q F (m :: t)) (hl : t.length ≤ 1099511627774) :
    Calls Try.prog 15 #[.pointer (some ⟨q, 0, none⟩), .int .i64 id] w fun e w' =>
      e = .returned (.int .i64 (((m :: t).length : Int) - (((m :: t).filter (fun d => !hit id d)).length : Int))) ∧ QTurned w q F ((m :: t).filter (fun d => !hit id d)) w' := by
  have hln := fun W (hb : Below w.heap.size w W) => qlen_any q F (m :: t) W (hQ.below hb)
  obtain ⟨h, hh, hR⟩ := hQ
  have hlen := hh.length
  obtain ⟨g, cap, hH, hA, hFq, hFg, hgq, hlt⟩ := hR.lies hh.first.2
  have hz : (((m :: t).length : Int) == 0) = false := beq_eq_false_iff_ne.2 (by simp; omega)
  obtain ⟨n, hn⟩ : ∃ n, n = (m :: t).length := ⟨_, rfl⟩
  rw [← hn] at hln hz
  have hc := hH.cell
  have hql := hH.lt
  have hdel := fun (W : World) (hb : Below w.heap.size w W) (hcell : W.cell? ⟨w.heap.size, 0, none⟩ = some (.int .i64 id)) (hsz : w.heap.size < W.heap.size) => del_any g cap h id w.heap.size W (hA.kept (Went.of_below hb (fun _ => False)) (fun h => h)) (by simp at hlen; omega) hcell hsz (by have := hA.lt; omega)
  rw [hlen, ← hn] at hdel hc
  obtain ⟨hc0, hc1⟩ := hc
  have HX := Aside0.mk (And.intro hR (And.intro hH (And.intro hA (And.intro hFq (And.intro hFg (And.intro hgq hlt))))))
  have HN := Aside0.mk hn
  have HH := Aside0.mk hh
  have HL := Aside0.mk hlen
  clear hR hH hA hFq hFg hgq hlt hn hlen hh
  go_enter Try.func15, Try.ntmps15
  go_wp2_with (first | (go_at_call 11; refine (hln _ ((Below.refl _ _).alloc (Nat.le_refl _) _)).mono ?_; rintro e w1 ⟨rfl, rfl⟩; clear hln) | (go_at_call 19; refine (hdel _ ((Below.refl _ _).alloc (Nat.le_refl _) _) (by simp) (by simp)).mono ?_; rintro e w2 ⟨rfl, ha, hw⟩; have HA2 := Aside0.mk ha; have HW2 := Aside0.mk hw; obtain ⟨hd0, hd1⟩ := ((HX.out.2.1.kept (Went.of_below ((Below.refl _ _).alloc (Nat.le_refl _) _) (fun _ => False)) (fun h => h)).kept hw (fun e => HX.out.2.2.2.2.2.1 e.symm)).cell; rw [HL.out, ← HN.out] at hd0; clear ha hw hdel))
  go_at_call 21
  obtain ⟨hR, hH, hA, hFq, hFg, hgq, hlt⟩ := HX.out
  have hba : Below w.heap.size w (w.alloc (.cells #[.int .i64 id] 3)) := (Below.refl _ _).alloc (Nat.le_refl _) _
  have hH2 := (hH.kept (Went.of_below hba (fun _ => False)) (fun h => h)).kept HW2.out (fun e => hgq e.symm)
  have hs : Went (fun k => k = q) w2 (w2.setCell ⟨q, 0, none⟩ (.slice (some ⟨g, 0, none⟩) (h.filter (fun d => !hit id d)).length cap)) := (Went.refl _ w2).setq _ _
  have hw3 : Went F w (w2.setCell ⟨q, 0, none⟩ (.slice (some ⟨g, 0, none⟩) (h.filter (fun d => !hit id d)).length cap)) :=
    ((Went.of_below hba F).trans HW2.out (fun _ h => h) (fun k hk => by subst hk; exact .inl hFg)).trans hs (fun _ h => h) (fun k hk => by subst hk; exact .inl hFq)
  have hR3 : Raw (w2.setCell ⟨q, 0, none⟩ (.slice (some ⟨g, 0, none⟩) (h.filter (fun d => !hit id d)).length cap)) q F (h.filter (fun d => !hit id d)) :=
    Raw.of rfl (hH2.set _ _ _) (HA2.out.kept hs hgq) hFq hFg hgq (fun k hk => Nat.lt_of_lt_of_le (hlt k hk) hw3.size)
  have hfl : (h.filter (fun d => !hit id d)).length ≤ h.length := List.length_filter_le _ _
  have hi := hinit_any q F _ _ hR3 (by have := HL.out; simp at this; omega)
  refine hi.mono ?_
  rintro e w4 ⟨rfl, l, hp, hheap, hT⟩
  obtain ⟨A4, c4, h4⟩ : ∃ A cap, w4.cell? ⟨q, 0, none⟩ = some (.slice A l.length cap) := by obtain ⟨F4, h41, _⟩ := hT; exact h41.head
  have hql4 : l.length = ((m :: t).filter (fun d => !hit id d)).length := by rw [hp.length_eq]; exact (HH.out.perm.filter _).length_eq
  rw [hql4] at h4
  have hle : ((m :: t).filter (fun d => !hit id d)).length ≤ n := by rw [HN.out]; exact List.length_filter_le _ _
  have hnb : n ≤ 1099511627776 := by have := HN.out; simp at this; omega
  generalize hz2 : ((m :: t).filter (fun d => !hit id d)).length = z at h4 hle ⊢
  have HZ2 := Aside0.mk hz2
  have HT := Aside0.mk (And.intro hp (And.intro hheap (And.intro hT hw3)))
  clear hi hR3 hs hH2 hba hR hH hA hFq hFg hgq hlt hw3 hp hheap hT hql4 hfl hz2
  go_wp2
  go_ret
  obtain ⟨hp, hheap, hT, hw3⟩ := HT.out
  refine ⟨ret_int (by rw [HZ2.out, HN.out]; rfl), ?_⟩
  exact (Turned.after (fun _ h => .inl h) hw3 hT).que (HH.out.drop _ hp hheap)
end Go.Proofs.Ytghgjjpddemjkaa.Due
