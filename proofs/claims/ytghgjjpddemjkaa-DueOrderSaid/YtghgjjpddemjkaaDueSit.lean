/- What lies apart from each other in memory while a law goes on: queues, boxes, rows; and what the queue's methods turn of it. No conditions beside those that each contract states. -/
import Derived.Test.YtghgjjpddemjkaaDueQueue
namespace Go.Proofs.Ytghgjjpddemjkaa.Due
open Go.RowKit Go.Proofs.Ytghgjjpddemjkaa.Pa Go.Proofs.YtghgjjpddemjkaaW.PrintWords Go.Proofs.YtghgjjpddemjkaaW.PrintLast Go.Proofs.YtghgjjpddemjkaaW.PrintMore
set_option linter.unusedVariables false

inductive Thing where
  | que (q : Nat) (s : List D)
  | blk (b : Nat) (o : Obj)
  | row (v : Value) (l : List D)
def Lies (W : World) : Thing → (Nat → Prop) → Prop
  | .que q s, F => Que W q F s
  | .blk b o, F => W.heap[b]? = some o ∧ ∀ k, F k ↔ k = b
  | .row v l, F => Kd.R k30 30 W 0 (fun _ => True) v l ∧ ∀ k, F k ↔ v.ownBlock = some k
theorem Lies.kept {w W : World} {t : Thing} {F S : Nat → Prop} (h : Lies w t F) (hw : Went S w W) (hn : ∀ k, F k → ¬ S k) : Lies W t F := by
  cases t with
  | que q s => exact Que.kept h hw hn
  | blk b o => exact ⟨hw.block h.1 (hn b ((h.2 b).2 rfl)), h.2⟩
  | row v l =>
    refine ⟨Kd.R_mono (Kd.R_kept (ok := fun k => v.ownBlock = some k) (Kd.R_reok rfl h.1 (fun k hk => hk)) hw.kept (fun k hk => hn k ((h.2 k).2 hk))) (fun _ _ => trivial), h.2⟩
def All (W : World) (base : Nat) : List Thing → (Nat → Prop) → Prop
  | [], _ => True
  | t :: r, U => ∃ F, Lies W t F ∧ (∀ k, F k → base ≤ k ∧ k < W.heap.size ∧ ¬ U k) ∧ All W base r (fun k => U k ∨ F k)
theorem All.mono {W : World} {base : Nat} : ∀ {T : List Thing} {U U' : Nat → Prop}, All W base T U → (∀ k, k < W.heap.size → U' k → U k) → All W base T U'
  | [], _, _, _, _ => trivial
  | t :: r, U, U', ⟨F, h1, h2, h3⟩, hu => ⟨F, h1, fun k hk => ⟨(h2 k hk).1, (h2 k hk).2.1, fun h => (h2 k hk).2.2 (hu k (h2 k hk).2.1 h)⟩, h3.mono (fun k hl h => h.imp (hu k hl) id)⟩
theorem All.kept {w W : World} {base : Nat} {S : Nat → Prop} : ∀ {T : List Thing} {U : Nat → Prop}, All w base T U → Went S w W → (∀ k, k < w.heap.size → S k → U k) → All W base T U
  | [], _, _, _, _ => trivial
  | t :: r, U, ⟨F, h1, h2, h3⟩, hw, hs =>
    ⟨F, h1.kept hw (fun k hk hS => (h2 k hk).2.2 (hs k (h2 k hk).2.1 hS)), fun k hk => ⟨(h2 k hk).1, Nat.lt_of_lt_of_le (h2 k hk).2.1 hw.size, (h2 k hk).2.2⟩, h3.kept hw (fun k hl hS => .inl (hs k hl hS))⟩
theorem All.swap {W : World} {base : Nat} {a b : Thing} {r : List Thing} {U : Nat → Prop} (h : All W base (a :: b :: r) U) : All W base (b :: a :: r) U := by
  obtain ⟨F, h1, h2, G, k1, k2, k3⟩ := h
  refine ⟨G, k1, fun k hk => ⟨(k2 k hk).1, (k2 k hk).2.1, fun h => (k2 k hk).2.2 (.inl h)⟩, F, h1, fun k hk => ⟨(h2 k hk).1, (h2 k hk).2.1, ?_⟩, k3.mono (fun k _ h => ?_)⟩
  · rintro (h | h)
    · exact (h2 k hk).2.2 h
    · exact (k2 k h).2.2 (.inr hk)
  · rcases h with (h | h) | h
    · exact .inl (.inl h)
    · exact .inr h
    · exact .inl (.inr h)
theorem All.perm {W : World} {base : Nat} {T T' : List Thing} (p : T.Perm T') : ∀ {U : Nat → Prop}, All W base T U → All W base T' U := by
  induction p with
  | nil => exact fun h => h
  | cons x _ ih => exact fun ⟨F, h1, h2, h3⟩ => ⟨F, h1, h2, ih h3⟩
  | swap x y l => exact fun h => h.swap
  | trans _ _ ih1 ih2 => exact fun h => ih2 (ih1 h)

/-- What is there, apart from each other, of what a law has made from w0 on. -/
structure Sit (w0 W : World) (T : List Thing) : Prop where
  below : Below w0.heap.size w0 W
  all : All W w0.heap.size T (fun _ => False)
theorem Sit.refl (w : World) : Sit w w [] := ⟨Below.refl _ _, trivial⟩
theorem Sit.perm {w0 W : World} {T T' : List Thing} (h : Sit w0 W T) (p : T.Perm T') : Sit w0 W T' := ⟨h.below, h.all.perm p⟩
theorem Sit.swap {w0 W : World} {a b : Thing} {T : List Thing} (h : Sit w0 W (a :: b :: T)) : Sit w0 W (b :: a :: T) := ⟨h.below, h.all.swap⟩
theorem Sit.rot {w0 W : World} {a b c : Thing} {T : List Thing} (h : Sit w0 W (a :: b :: c :: T)) : Sit w0 W (c :: a :: b :: T) := h.perm (by
  have h1 : (a :: b :: c :: T).Perm (a :: c :: b :: T) := (List.Perm.swap c b T).cons a
  exact h1.trans (List.Perm.swap c a _))
theorem Sit.rot4 {w0 W : World} {a b c d : Thing} {T : List Thing} (h : Sit w0 W (a :: b :: c :: d :: T)) : Sit w0 W (d :: a :: b :: c :: T) := h.perm (by
  have h1 : (b :: c :: d :: T).Perm (d :: b :: c :: T) := ((List.Perm.swap d c T).cons b).trans (List.Perm.swap d b _)
  exact (h1.cons a).trans (List.Perm.swap d a _))
theorem size_alloc (w : World) (o : Obj) : (w.alloc o).heap.size = w.heap.size + 1 := by simp
theorem Sit.perm3 {w0 W : World} {a b c : Thing} {T : List Thing} (h : Sit w0 W (a :: b :: c :: T)) : Sit w0 W (a :: b :: c :: T) := h
theorem Sit.tail {w0 W : World} {a : Thing} {T : List Thing} (h : Sit w0 W (a :: T)) : Sit w0 W T := by
  obtain ⟨hb, F, _, _, h3⟩ := h
  exact ⟨hb, h3.mono (fun _ _ h => h.elim)⟩
theorem Sit.behind {w0 W W' : World} {T : List Thing} (h : Sit w0 W T) (hb : Below W.heap.size W W') : Sit w0 W' T :=
  ⟨below_then h.below h.below.size hb, h.all.kept (Went.of_below hb (fun _ => False)) (fun _ _ h => h)⟩
theorem Sit.skip {w0 W : World} {T : List Thing} (h : Sit w0 W T) (o : Obj) : Sit w0 (W.alloc o) T := h.behind ((Below.refl _ _).alloc (Nat.le_refl _) _)
theorem Sit.drew {w0 W : World} {T : List Thing} (h : Sit w0 W T) : Sit w0 W.drew T := h.behind ((Below.refl _ _).drew)
theorem Sit.drewN {w0 W : World} {T : List Thing} (h : Sit w0 W T) (n : Nat) : Sit w0 (W.drewN n) T := h.behind (pw_below_drewN (Below.refl _ _) n)
/-- A new block. -/
theorem Sit.alloc {w0 W : World} {T : List Thing} (h : Sit w0 W T) (cs : Array Value) (e : TypeId) : Sit w0 (W.alloc (.cells cs e)) (.blk W.heap.size (.cells cs e (0, 0)) :: T) := by
  refine ⟨(h.skip _).below, fun k => k = W.heap.size, ⟨heap_alloc_new W _, fun _ => Iff.rfl⟩, fun k hk => ⟨by subst hk; exact h.below.size, by subst hk; simp, fun h => h⟩, ?_⟩
  refine All.mono ((All.mono (U' := fun k => k = W.heap.size) h.all (fun k hl hk => by omega)).kept (S := fun _ => False) (Went.of_below ((Below.refl _ _).alloc (Nat.le_refl _) _) _) (fun _ _ h => h.elim)) (fun k _ h => ?_)
  rcases h with h | h
  · exact h.elim
  · exact h
theorem Sit.set {w0 W : World} {T : List Thing} {b : Nat} {cs : Array Value} {e : TypeId} (h : Sit w0 W (.blk b (.cells cs e (0, 0)) :: T)) (o : Nat) (u : Value) : Sit w0 (W.setCell ⟨b, o, none⟩ u) (.blk b (.cells (cs.setIfInBounds o u) e (0, 0)) :: T) := by
  obtain ⟨hb, F, ⟨h1, hF⟩, h2, h3⟩ := h
  have hs : Went (fun k => k = b) W (W.setCell ⟨b, o, none⟩ u) := (Went.refl _ W).setq _ _
  have hbk := h2 b ((hF b).2 rfl)
  refine ⟨hb.setCell (p := ⟨b, o, none⟩) hbk.1 u, F, ⟨heap_setCell h1 u, hF⟩, fun k hk => ⟨(h2 k hk).1, Nat.lt_of_lt_of_le (h2 k hk).2.1 hs.size, (h2 k hk).2.2⟩, h3.kept hs (fun k _ hk => .inr ((hF k).2 hk))⟩
theorem Sit.blk {w0 W : World} {T : List Thing} {b : Nat} {o : Obj} (h : Sit w0 W (.blk b o :: T)) : W.heap[b]? = some o ∧ b < W.heap.size ∧ w0.heap.size ≤ b := by
  obtain ⟨hb, F, ⟨h1, hF⟩, h2, h3⟩ := h
  exact ⟨h1, (h2 b ((hF b).2 rfl)).2.1, (h2 b ((hF b).2 rfl)).1⟩
theorem Sit.blk2 {w0 W : World} {T : List Thing} {b : Nat} {x y : Value} {e : TypeId} (h : Sit w0 W (.blk b (.cells #[x, y] e (0, 0)) :: T)) :
    W.cell? ⟨b, 0, none⟩ = some x ∧ W.cell? ⟨b, 1, none⟩ = some y ∧ W.frozen? ⟨b, 0, none⟩ = false ∧ W.frozen? ⟨b, 1, none⟩ = false ∧ b < W.heap.size := by
  obtain ⟨h1, h2, _⟩ := h.blk
  exact ⟨by rw [cell_of_row _ _ _ _ _ _ h1]; rfl, by rw [cell_of_row _ _ _ _ _ _ h1]; rfl, by simp [World.frozen?, h1], by simp [World.frozen?, h1], h2⟩
/-- A new queue. -/
theorem Sit.fresh {w0 W : World} {T : List Thing} (h : Sit w0 W T) : Sit w0 (W.alloc (.cells #[.slice none 0 0] 27)) (.que W.heap.size [] :: T) := by
  obtain ⟨hb, F, ⟨h1, hF⟩, h2, h3⟩ := h.alloc #[.slice none 0 0] 27
  refine ⟨hb, F, ⟨[], Holds.nil, none, 0, h1, World.ownsRow_nil _ _ _ _, (hF _).2 rfl, fun k hk => by simp [Value.ownBlock] at hk, fun k hk => (h2 k hk).2.1⟩, h2, h3⟩
theorem sit_turn {w0 W W' : World} {T : List Thing} {q : Nat} {s' : List D} {F : Nat → Prop} (hb : Below w0.heap.size w0 W) (h2 : ∀ k, F k → w0.heap.size ≤ k ∧ k < W.heap.size ∧ ¬ False) (h3 : All W w0.heap.size T (fun k => False ∨ F k)) (ht : QTurned W q F s' W') : Sit w0 W' (.que q s' :: T) := by
  obtain ⟨F', k1, k2, k3⟩ := ht
  have hbase : ∀ k, F' k → w0.heap.size ≤ k := fun k hk => by
    rcases k2 k hk with h | h
    · exact (h2 k h).1
    · exact Nat.le_trans hb.size h
  refine ⟨k3.below hb hb.size (fun k hk => (h2 k hk).1), F', k1, fun k hk => ⟨hbase k hk, k1.lt k hk, fun h => h⟩, ?_⟩
  have h4 : All W w0.heap.size T (fun k => F k ∨ F' k) := h3.mono (fun k hl h => by
    rcases h with h | h
    · exact .inr h
    · rcases k2 k h with h | h
      · exact .inr h
      · omega)
  exact (h4.kept k3 (fun k _ hk => .inl hk)).mono (fun k _ h => by
    rcases h with h | h
    · exact h.elim
    · exact .inr h)
theorem sit_len {w0 W : World} {T : List Thing} {q : Nat} {s : List D} (h : Sit w0 W (.que q s :: T)) : Calls Try.prog 11 #[.pointer (some ⟨q, 0, none⟩)] W fun e w' => e = .returned (.int .i64 s.length) ∧ W = w' := by
  obtain ⟨hb, F, h1, h2, h3⟩ := h
  exact qlen_any q F s W h1
theorem sit_put {w0 W : World} {T : List Thing} {q : Nat} {s : List D} (x : D) (h : Sit w0 W (.que q s :: T)) (hn : s.length ≤ 1099511627775) :
    Calls Try.prog 9 #[.pointer (some ⟨q, 0, none⟩), .agg #[.int .i64 x.f0, .int .i64 x.f1]] W fun e w' => e = .returned (.tuple #[]) ∧ Sit w0 w' (.que q (ins x s) :: T) := by
  obtain ⟨hb, F, h1, h2, h3⟩ := h
  refine (qput_any q F s x W h1 hn).mono ?_
  rintro e w' ⟨rfl, ht⟩
  exact ⟨rfl, sit_turn hb h2 h3 ht⟩
theorem sit_first_none {w0 W : World} {T : List Thing} {q : Nat} (h : Sit w0 W (.que q [] :: T)) :
    Calls Try.prog 12 #[.pointer (some ⟨q, 0, none⟩)] W fun e w' => e = .returned (.tuple #[.agg #[.int .i64 0, .int .i64 0], .bool false]) ∧ Sit w0 w' (.que q [] :: T) := by
  obtain ⟨hb, F, h1, h2, h3⟩ := h
  refine (qfirst_none q F W h1).mono ?_
  rintro e w' ⟨rfl, ht⟩
  exact ⟨rfl, Sit.behind ⟨hb, F, h1, h2, h3⟩ ht⟩
theorem sit_first_some {w0 W : World} {T : List Thing} {q : Nat} {m : D} {s : List D} (h : Sit w0 W (.que q (m :: s) :: T)) :
    Calls Try.prog 12 #[.pointer (some ⟨q, 0, none⟩)] W fun e w' => e = .returned (.tuple #[.agg #[.int .i64 m.f0, .int .i64 m.f1], .bool true]) ∧ Sit w0 w' (.que q (m :: s) :: T) := by
  obtain ⟨hb, F, h1, h2, h3⟩ := h
  refine (qfirst_some q F m s W h1).mono ?_
  rintro e w' ⟨rfl, ht⟩
  exact ⟨rfl, Sit.behind ⟨hb, F, h1, h2, h3⟩ ht⟩
theorem sit_take_none {w0 W : World} {T : List Thing} {q : Nat} {s : List D} (now : Int) (h : Sit w0 W (.que q s :: T)) (hn : ∀ m t, s = m :: t → now < m.f0) :
    Calls Try.prog 10 #[.pointer (some ⟨q, 0, none⟩), .int .i64 now] W fun e w' => e = .returned (.tuple #[.agg #[.int .i64 0, .int .i64 0], .bool false]) ∧ Sit w0 w' (.que q s :: T) := by
  obtain ⟨hb, F, h1, h2, h3⟩ := h
  refine (qtake_none q F s now W h1 hn).mono ?_
  rintro e w' ⟨rfl, ht⟩
  exact ⟨rfl, Sit.behind ⟨hb, F, h1, h2, h3⟩ ht⟩
theorem sit_take_some {w0 W : World} {T : List Thing} {q : Nat} {m : D} {s : List D} (now : Int) (h : Sit w0 W (.que q (m :: s) :: T)) (hn : m.f0 ≤ now) (hl : s.length ≤ 1099511627775) :
    Calls Try.prog 10 #[.pointer (some ⟨q, 0, none⟩), .int .i64 now] W fun e w' => e = .returned (.tuple #[.agg #[.int .i64 m.f0, .int .i64 m.f1], .bool true]) ∧ Sit w0 w' (.que q s :: T) := by
  obtain ⟨hb, F, h1, h2, h3⟩ := h
  refine (qtake_some q F m s now W h1 hn hl).mono ?_
  rintro e w' ⟨rfl, ht⟩
  exact ⟨rfl, sit_turn hb h2 h3 ht⟩
theorem sit_drop {w0 W : World} {T : List Thing} {q : Nat} {s : List D} (id : Int) (h : Sit w0 W (.que q s :: T)) (hl : s.length ≤ 1099511627774) :
    Calls Try.prog 15 #[.pointer (some ⟨q, 0, none⟩), .int .i64 id] W fun e w' => e = .returned (.int .i64 ((s.length : Int) - ((s.filter (fun d => !hit id d)).length : Int))) ∧ Sit w0 w' (.que q (s.filter (fun d => !hit id d)) :: T) := by
  obtain ⟨hb, F, h1, h2, h3⟩ := h
  cases s with
  | nil =>
    refine (qdrop_none q F id W h1).mono ?_
    rintro e w' ⟨rfl, ht⟩
    exact ⟨rfl, Sit.behind ⟨hb, F, h1, h2, h3⟩ ht⟩
  | cons m t =>
    refine (qdrop_some q F m t id W h1 (by simp at hl; omega)).mono ?_
    rintro e w' ⟨rfl, ht⟩
    exact ⟨rfl, sit_turn hb h2 h3 ht⟩
end Go.Proofs.Ytghgjjpddemjkaa.Due
