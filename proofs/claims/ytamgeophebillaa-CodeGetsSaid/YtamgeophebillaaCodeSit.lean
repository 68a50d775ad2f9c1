/- What lies apart from each other in memory while a law goes on: what is put, what is got, rows, blocks; and what the methods turn of it. No conditions beside those that each contract states. -/
import Derived.Test.YtamgeophebillaaCodePlain
import Derived.Test.YtamgeophebillaaPa1
namespace Go.Proofs.Ytamgeophebillaa.Code
open Go.RowKit Go.Proofs.Ytamgeophebillaa.Pa Go.Proofs.YtamgeophebillaaW.PrintWords Go.Proofs.YtamgeophebillaaW.PrintLast Go.Proofs.YtamgeophebillaaW.PrintMore
set_option linter.unusedVariables false

theorem R_zero {w : World} {base : Nat} {ok : Nat → Prop} {v : Value} {l : List Int} (h : Kd.R (Kd.int .u8) 5 w base ok v l) : Kd.R (Kd.int .u8) 5 w 0 (fun k => base ≤ k ∧ k < w.heap.size) v l := by
  have hb := Kd.R_bound h
  refine Kd.R_of_own ?_ (fun k hk => ⟨(hb.1 k hk).2.1, (hb.1 k hk).2.2.1⟩)
  obtain ⟨h1, h2⟩ := Kd.own_of_R h
  refine ⟨h1, ?_⟩
  rcases h2 with h2 | ⟨g, cap, cur, e, h3, h4⟩
  · exact .inl h2
  · exact .inr ⟨g, cap, cur, e, Nat.zero_le _, h4⟩
/-- What stays true while other blocks are turned. -/
def Moves (L : World → (Nat → Prop) → Prop) : Prop := ∀ {w W : World} {F S : Nat → Prop}, L w F → Went S w W → (∀ k, F k → ¬ S k) → L W F
inductive Thing where
  | gen (L : World → (Nat → Prop) → Prop) (hk : Moves L)
  | out (q : Nat) (bs : List Int)
  | inn (g : Nat) (bs : List Int)
  | blk (b : Nat) (o : Obj)
  | row (v : Value) (l : List Int)
def Lies (W : World) : Thing → (Nat → Prop) → Prop
  | .out q bs, F => Out W q F bs
  | .inn g bs, F => ∃ M, Inn W g M bs ∧ F g ∧ ∀ k, M k → F k
  | .blk b o, F => W.heap[b]? = some o ∧ ∀ k, F k ↔ k = b
  | .row v l, F => Kd.R (Kd.int .u8) 5 W 0 F v l
  | .gen L _, F => L W F
theorem Lies.kept {w W : World} {t : Thing} {F S : Nat → Prop} (h : Lies w t F) (hw : Went S w W) (hn : ∀ k, F k → ¬ S k) : Lies W t F := by
  cases t with
  | out q s => exact Out.kept h hw hn
  | inn g bs =>
    obtain ⟨M, h1, h2, h3⟩ := h
    exact ⟨M, h1.kept hw (hn g h2) (fun k hk => hn k (h3 k hk)), h2, h3⟩
  | blk b o => exact ⟨hw.block h.1 (hn b ((h.2 b).2 rfl)), h.2⟩
  | row v l => exact Kd.R_kept h hw.kept hn
  | gen L hk => exact hk h hw hn
def All (W : World) (base : Nat) : List Thing → (Nat → Prop) → Prop
  | [], _ => True
  | t :: r, U => ∃ F, Lies W t F ∧ (∀ k, F k → base ≤ k ∧ k < W.heap.size ∧ ¬ U k) ∧ All W base r (fun k => U k ∨ F k)
theorem All.mono {W : World} {base : Nat} : ∀ {T : List Thing} {U U' : Nat → Prop}, All W base T U → (∀ k, k < W.heap.size → U' k → U k) → All W base T U'
  | [], _, _, _, _ => trivial
  | t :: r, U, U', ⟨F, h1, h2, h3⟩, hu => ⟨F, h1, fun k hk => ⟨(h2 k hk).1, (h2 k hk).2.1, fun h => (h2 k hk).2.2 (hu k (h2 k hk).2.1 h)⟩, h3.mono (fun k hl h => h.imp (hu k hl) id)⟩
theorem All.kept {w W : World} {base : Nat} {S : Nat → Prop} : ∀ {T : List Thing} {U : Nat → Prop}, All w base T U → Went S w W → (∀ k, k < w.heap.size → S k → U k) → All W base T U
  | [], _, _, _, _ => trivial
  | t :: r, U, ⟨F, h1, h2, h3⟩, hw, hs =>
    ⟨F, h1.kept hw (fun k hk hS => (h2 k hk).2.2 (hs k (h2 k hk).2.1 hS)), fun k hk => ⟨(h2 k hk).1, Nat.lt_of_lt_of_le (h2 k hk).2.1 hw.size, (h2 k hk).2.2⟩, h3.kept hw (fun k hl hS => .inl (hs k hl hS))⟩
theorem All.swap {W : World} {base : Nat} {a b : Thing} {r : List Thing} {U : Nat → Prop} (h : All W base (a :: b :: r) U) : All W base (b :: a :: r) U := by
  obtain ⟨F, h1, h2, G, k1, k2, k3⟩ := h
  refine ⟨G, k1, fun k hk => ⟨(k2 k hk).1, (k2 k hk).2.1, fun h => (k2 k hk).2.2 (.inl h)⟩, F, h1, fun k hk => ⟨(h2 k hk).1, (h2 k hk).2.1, ?_⟩, k3.mono (fun k _ h => ?_)⟩
  · rintro (h | h)
    · exact (h2 k hk).2.2 h
    · exact (k2 k h).2.2 (.inr hk)
  · rcases h with (h | h) | h
    · exact .inl (.inl h)
    · exact .inr h
    · exact .inl (.inr h)
theorem All.perm {W : World} {base : Nat} {T T' : List Thing} (p : T.Perm T') : ∀ {U : Nat → Prop}, All W base T U → All W base T' U := by
  induction p with
  | nil => exact fun h => h
  | cons x _ ih => exact fun ⟨F, h1, h2, h3⟩ => ⟨F, h1, h2, ih h3⟩
  | swap x y l => exact fun h => h.swap
  | trans _ _ ih1 ih2 => exact fun h => ih2 (ih1 h)

/-- What is there, apart from each other, of what a law has made from w0 on. -/
structure Sit (w0 W : World) (T : List Thing) : Prop where
  below : Below w0.heap.size w0 W
  all : All W w0.heap.size T (fun _ => False)
theorem Sit.refl (w : World) : Sit w w [] := ⟨Below.refl _ _, trivial⟩
theorem Sit.perm {w0 W : World} {T T' : List Thing} (h : Sit w0 W T) (p : T.Perm T') : Sit w0 W T' := ⟨h.below, h.all.perm p⟩
theorem Sit.swap {w0 W : World} {a b : Thing} {T : List Thing} (h : Sit w0 W (a :: b :: T)) : Sit w0 W (b :: a :: T) := ⟨h.below, h.all.swap⟩
theorem Sit.rot {w0 W : World} {a b c : Thing} {T : List Thing} (h : Sit w0 W (a :: b :: c :: T)) : Sit w0 W (c :: a :: b :: T) := h.perm (by
  have h1 : (a :: b :: c :: T).Perm (a :: c :: b :: T) := (List.Perm.swap c b T).cons a
  exact h1.trans (List.Perm.swap c a _))
theorem Sit.rot4 {w0 W : World} {a b c d : Thing} {T : List Thing} (h : Sit w0 W (a :: b :: c :: d :: T)) : Sit w0 W (d :: a :: b :: c :: T) := h.perm (by
  have h1 : (b :: c :: d :: T).Perm (d :: b :: c :: T) := ((List.Perm.swap d c T).cons b).trans (List.Perm.swap d b _)
  exact (h1.cons a).trans (List.Perm.swap d a _))
theorem Sit.perm3 {w0 W : World} {a b c : Thing} {T : List Thing} (h : Sit w0 W (a :: b :: c :: T)) : Sit w0 W (a :: b :: c :: T) := h
theorem Sit.tail {w0 W : World} {a : Thing} {T : List Thing} (h : Sit w0 W (a :: T)) : Sit w0 W T := by
  obtain ⟨hb, F, _, _, h3⟩ := h
  exact ⟨hb, h3.mono (fun _ _ h => h.elim)⟩
theorem Sit.behind {w0 W W' : World} {T : List Thing} (h : Sit w0 W T) (hb : Below W.heap.size W W') : Sit w0 W' T :=
  ⟨below_then h.below h.below.size hb, h.all.kept (Went.of_below hb (fun _ => False)) (fun _ _ h => h)⟩
theorem Sit.skip {w0 W : World} {T : List Thing} (h : Sit w0 W T) (o : Obj) : Sit w0 (W.alloc o) T := h.behind ((Below.refl _ _).alloc (Nat.le_refl _) _)
theorem Sit.drew {w0 W : World} {T : List Thing} (h : Sit w0 W T) : Sit w0 W.drew T := h.behind ((Below.refl _ _).drew)
theorem Sit.drewN {w0 W : World} {T : List Thing} (h : Sit w0 W T) (n : Nat) : Sit w0 (W.drewN n) T := h.behind (pw_below_drewN (Below.refl _ _) n)
/-- A new block. -/
theorem Sit.alloc {w0 W : World} {T : List Thing} (h : Sit w0 W T) (cs : Array Value) (e : TypeId) : Sit w0 (W.alloc (.cells cs e)) (.blk W.heap.size (.cells cs e (0, 0)) :: T) := by
  refine ⟨(h.skip _).below, fun k => k = W.heap.size, ⟨heap_alloc_new W _, fun _ => Iff.rfl⟩, fun k hk => ⟨by subst hk; exact h.below.size, by subst hk; simp, fun h => h⟩, ?_⟩
  refine All.mono ((All.mono (U' := fun k => k = W.heap.size) h.all (fun k hl hk => by omega)).kept (S := fun _ => False) (Went.of_below ((Below.refl _ _).alloc (Nat.le_refl _) _) _) (fun _ _ h => h.elim)) (fun k _ h => ?_)
  rcases h with h | h
  · exact h.elim
  · exact h
theorem Sit.set {w0 W : World} {T : List Thing} {b : Nat} {cs : Array Value} {e : TypeId} (h : Sit w0 W (.blk b (.cells cs e (0, 0)) :: T)) (o : Nat) (u : Value) : Sit w0 (W.setCell ⟨b, o, none⟩ u) (.blk b (.cells (cs.setIfInBounds o u) e (0, 0)) :: T) := by
  obtain ⟨hb, F, ⟨h1, hF⟩, h2, h3⟩ := h
  have hs : Went (fun k => k = b) W (W.setCell ⟨b, o, none⟩ u) := Went.setq (S := fun k => k = b) (Went.refl _ W) (.inl rfl) _
  have hbk := h2 b ((hF b).2 rfl)
  refine ⟨hb.setCell (p := ⟨b, o, none⟩) hbk.1 u, F, ⟨heap_setCell h1 u, hF⟩, fun k hk => ⟨(h2 k hk).1, Nat.lt_of_lt_of_le (h2 k hk).2.1 hs.size, (h2 k hk).2.2⟩, h3.kept hs (fun k _ hk => .inr ((hF k).2 hk))⟩
theorem Sit.blk {w0 W : World} {T : List Thing} {b : Nat} {o : Obj} (h : Sit w0 W (.blk b o :: T)) : W.heap[b]? = some o ∧ b < W.heap.size ∧ w0.heap.size ≤ b := by
  obtain ⟨hb, F, ⟨h1, hF⟩, h2, h3⟩ := h
  exact ⟨h1, (h2 b ((hF b).2 rfl)).2.1, (h2 b ((hF b).2 rfl)).1⟩
theorem Sit.blk2 {w0 W : World} {T : List Thing} {b : Nat} {x y : Value} {e : TypeId} (h : Sit w0 W (.blk b (.cells #[x, y] e (0, 0)) :: T)) :
    W.cell? ⟨b, 0, none⟩ = some x ∧ W.cell? ⟨b, 1, none⟩ = some y ∧ W.frozen? ⟨b, 0, none⟩ = false ∧ W.frozen? ⟨b, 1, none⟩ = false ∧ b < W.heap.size := by
  obtain ⟨h1, h2, _⟩ := h.blk
  exact ⟨by rw [cell_of_row _ _ _ _ _ _ h1]; rfl, by rw [cell_of_row _ _ _ _ _ _ h1]; rfl, by simp [World.frozen?, h1], by simp [World.frozen?, h1], h2⟩
/-- A new thing. -/
theorem Sit.add {w0 W W' : World} {T : List Thing} {t : Thing} {F : Nat → Prop} (h : Sit w0 W T) (hb : Below W.heap.size W W') (ht : Lies W' t F) (hF : ∀ k, F k → W.heap.size ≤ k ∧ k < W'.heap.size) : Sit w0 W' (t :: T) := by
  have h' := h.behind hb
  refine ⟨h'.below, F, ht, fun k hk => ⟨Nat.le_trans h.below.size (hF k hk).1, (hF k hk).2, fun h => h⟩, ?_⟩
  exact ((h.all.mono (U' := fun k => F k) (fun k hl hk => by have := (hF k hk).1; omega)).kept (S := fun _ => False) (Went.of_below hb _) (fun _ _ h => h.elim)).mono (fun k _ h => by
    rcases h with h | h
    · exact h.elim
    · exact h)
/-- A thing turned. -/
theorem Sit.turn {w0 W W' : World} {T : List Thing} {t t' : Thing} {F F' : Nat → Prop} (hb : Below w0.heap.size w0 W) (h2 : ∀ k, F k → w0.heap.size ≤ k ∧ k < W.heap.size ∧ ¬ False) (h3 : All W w0.heap.size T (fun k => False ∨ F k)) (k1 : Lies W' t' F') (k2 : ∀ k, F' k → (F k ∨ W.heap.size ≤ k) ∧ k < W'.heap.size) (k3 : Went F W W') : Sit w0 W' (t' :: T) := by
  have hbase : ∀ k, F' k → w0.heap.size ≤ k := fun k hk => by
    rcases (k2 k hk).1 with h | h
    · exact (h2 k h).1
    · exact Nat.le_trans hb.size h
  refine ⟨k3.below hb hb.size (fun k hk => (h2 k hk).1), F', k1, fun k hk => ⟨hbase k hk, (k2 k hk).2, fun h => h⟩, ?_⟩
  have h4 : All W w0.heap.size T (fun k => F k ∨ F' k) := h3.mono (fun k hl h => by
    rcases h with h | h
    · exact .inr h
    · rcases (k2 k h).1 with h | h
      · exact .inr h
      · omega)
  exact (h4.kept k3 (fun k _ hk => .inl hk)).mono (fun k _ h => by
    rcases h with h | h
    · exact h.elim
    · exact .inr h)
/-- Something new to put into. -/
theorem Sit.fresh {w0 W : World} {T : List Thing} (h : Sit w0 W T) : Sit w0 (W.alloc (.cells #[.slice none 0 0] 28)) (.out W.heap.size [] :: T) :=
  h.add (F := fun k => k = W.heap.size) ((Below.refl _ _).alloc (Nat.le_refl _) _) ⟨none, 0, World.alloc_heap_new W _, Kd.R_nil _ _ _ _ _, rfl, fun k hk => by subst hk; simp⟩ (fun k hk => by subst hk; simp)
theorem Out.lt_all {w : World} {q : Nat} {F : Nat → Prop} {bs : List Int} (k : Out w q F bs) : ∀ k, F k → k < w.heap.size := by obtain ⟨_, _, _, _, _, h⟩ := k; exact h
theorem sit_out {w0 W W' : World} {T : List Thing} {q : Nat} {bs : List Int} {F : Nat → Prop} (hb : Below w0.heap.size w0 W) (h2 : ∀ k, F k → w0.heap.size ≤ k ∧ k < W.heap.size ∧ ¬ False) (h3 : All W w0.heap.size T (fun k => False ∨ F k)) (ht : OutTurned W q F bs W') : Sit w0 W' (.out q bs :: T) := by
  obtain ⟨F', k1, k2, k3⟩ := ht
  exact Sit.turn (t := .out q bs) hb h2 h3 k1 (fun k hk => ⟨k2 k hk, Out.lt_all k1 k hk⟩) k3
theorem sit_num {w0 W : World} {T : List Thing} {q : Nat} {bs : List Int} (n : Int) (h : Sit w0 W (.out q bs :: T)) (h1 : n < 9223372036854775808) (hl : bs.length ≤ 1099511627776) :
    Calls Try.prog 24 #[.pointer (some ⟨q, 0, none⟩), .int .i64 n] W fun e w' => e = .returned (.int .i64 (if n < 0 then 1 else 0)) ∧ Sit w0 w' (.out q (if n < 0 then bs else bs ++ digs n.toNat) :: T) := by
  obtain ⟨hb, F, k1, k2, k3⟩ := h
  refine (num_any q n F bs W k1 h1 hl).mono ?_
  rintro e w' ⟨rfl, ht⟩
  exact ⟨rfl, sit_out hb k2 k3 ht⟩
theorem sit_int {w0 W : World} {T : List Thing} {q : Nat} {bs : List Int} (n : Int) (h : Sit w0 W (.out q bs :: T)) (h0 : -9223372036854775808 ≤ n) (h1 : n < 9223372036854775808) (hl : bs.length ≤ 1099511627776) :
    Calls Try.prog 25 #[.pointer (some ⟨q, 0, none⟩), .int .i64 n] W fun e w' => e = .returned (.tuple #[]) ∧ Sit w0 w' (.out q (bs ++ digs (zig n)) :: T) := by
  obtain ⟨hb, F, k1, k2, k3⟩ := h
  refine (int_any q n F bs W k1 h0 h1 hl).mono ?_
  rintro e w' ⟨rfl, ht⟩
  exact ⟨rfl, sit_out hb k2 k3 ht⟩
/-- Bytes: those of a row that lies apart. -/
theorem sit_bytes {w0 W : World} {T : List Thing} {q : Nat} {bs b : List Int} {A : Option Addr} {c : Nat} (h : Sit w0 W (.out q bs :: T)) (hr : ∀ (F : Nat → Prop) W', (∀ k, F k → w0.heap.size ≤ k ∧ k < W.heap.size) → All W w0.heap.size T (fun k => False ∨ F k) → Went F W W' → Kd.C (Kd.int .u8) W' A b.length b) (hc : b.length ≤ c) (hl : bs.length ≤ 549755813888) :
    Calls Try.prog 26 #[.pointer (some ⟨q, 0, none⟩), .slice A b.length c] W fun e w' => e = .returned (.int .i64 (if 4096 < b.length then 2 else 0)) ∧ Sit w0 w' (.out q (if 4096 < b.length then bs else bs ++ (digs b.length ++ b)) :: T) := by
  obtain ⟨hb, F, k1, k2, k3⟩ := h
  refine (bytes_any q b A c F bs W k1 (fun W' hW => hr F W' (fun k hk => ⟨(k2 k hk).1, (k2 k hk).2.1⟩) k3 hW) hc hl).mono ?_
  rintro e w' ⟨rfl, ht⟩
  exact ⟨rfl, sit_out hb k2 k3 ht⟩
/-- Bytes that lay there before. -/
theorem sit_bytes_old {w0 W : World} {T : List Thing} {q : Nat} {bs b : List Int} {A : Option Addr} {c : Nat} (h : Sit w0 W (.out q bs :: T)) (hC : Kd.C (Kd.int .u8) w0 A b.length b) (hc : b.length ≤ c) (hl : bs.length ≤ 549755813888) :
    Calls Try.prog 26 #[.pointer (some ⟨q, 0, none⟩), .slice A b.length c] W fun e w' => e = .returned (.int .i64 (if 4096 < b.length then 2 else 0)) ∧ Sit w0 w' (.out q (if 4096 < b.length then bs else bs ++ (digs b.length ++ b)) :: T) :=
  sit_bytes h (fun F W' hF _ hW => Kd.C_below hC (hW.below h.below h.below.size (fun k hk => (hF k hk).1))) hc hl
theorem sit_all {w0 W : World} {T : List Thing} {q : Nat} {bs : List Int} (h : Sit w0 W (.out q bs :: T)) (hl : bs.length ≤ 1099511627776) :
    Calls Try.prog 15 #[.pointer (some ⟨q, 0, none⟩)] W fun e w' => ∃ A c, e = .returned (.slice A bs.length c) ∧ bs.length ≤ c ∧ Sit w0 w' (.row (.slice A bs.length c) bs :: .out q bs :: T) := by
  obtain ⟨hb, F, k1, k2, k3⟩ := h
  refine (all_any q F bs W k1 hl).mono ?_
  rintro e w' ⟨v, rfl, hv, hbl⟩
  obtain ⟨A, c, rfl⟩ := own_slice (Kd.own_of_R hv)
  refine ⟨A, c, rfl, (Kd.R_reads' hv).2.1, Sit.add ⟨hb, F, k1, k2, k3⟩ hbl (t := .row _ _) (F := fun k => W.heap.size ≤ k ∧ k < w'.heap.size) ?_ (fun k hk => hk)⟩
  exact R_zero hv
theorem Sit.row {w0 W : World} {T : List Thing} {A : Option Addr} {n c : Nat} {l : List Int} (h : Sit w0 W (.row (.slice A n c) l :: T)) : n = l.length ∧ n ≤ c ∧ Kd.C (Kd.int .u8) W A l.length l := by
  obtain ⟨hb, F, k1, k2, k3⟩ := h
  exact Kd.R_reads' k1

/-! #### What is got -/
theorem sit_in {w0 W W' : World} {T : List Thing} {g : Nat} {bs' : List Int} {M : Nat → Prop} {F : Nat → Prop} (hb : Below w0.heap.size w0 W) (h2 : ∀ k, F k → w0.heap.size ≤ k ∧ k < W.heap.size ∧ ¬ False) (h3 : All W w0.heap.size T (fun k => False ∨ F k)) (hg : F g) (hM : ∀ k, M k → F k) (ht : Inn W' g M bs') (hw : Went (fun k => k = g) W W') : Sit w0 W' (.inn g bs' :: T) :=
  Sit.turn (t := .inn g bs') hb h2 h3 ⟨M, ht, hg, hM⟩ (fun k hk => ⟨.inl hk, Nat.lt_of_lt_of_le (h2 k hk).2.1 hw.size⟩) (hw.mono (fun k hk => by subst hk; exact hg))
theorem sit_getnum {w0 W : World} {T : List Thing} {g : Nat} {bs : List Int} (h : Sit w0 W (.inn g bs :: T)) :
    Calls Try.prog 17 #[.pointer (some ⟨g, 0, none⟩)] W fun e w' => e = .returned (.tuple #[.int .i64 (getNum bs).v, .int .i64 (getNum bs).e]) ∧ Sit w0 w' (.inn g (getNum bs).left :: T) := by
  obtain ⟨hb, F, ⟨M, k1, k4, k5⟩, k2, k3⟩ := h
  refine (getnum_any g M bs W k1).mono ?_
  rintro e w' ⟨rfl, hi, hw⟩
  exact ⟨rfl, sit_in hb k2 k3 k4 k5 hi hw⟩
theorem sit_getint {w0 W : World} {T : List Thing} {g : Nat} {bs : List Int} (h : Sit w0 W (.inn g bs :: T)) :
    Calls Try.prog 19 #[.pointer (some ⟨g, 0, none⟩)] W fun e w' => e = .returned (.tuple #[.int .i64 (getInt bs).v, .int .i64 (getInt bs).e]) ∧ Sit w0 w' (.inn g (getInt bs).left :: T) := by
  obtain ⟨hb, F, ⟨M, k1, k4, k5⟩, k2, k3⟩ := h
  refine (getint_any g M bs W k1).mono ?_
  rintro e w' ⟨rfl, hi, hw⟩
  exact ⟨rfl, sit_in hb k2 k3 k4 k5 hi hw⟩
theorem sit_left {w0 W : World} {T : List Thing} {g : Nat} {bs : List Int} (h : Sit w0 W (.inn g bs :: T)) :
    Calls Try.prog 23 #[.pointer (some ⟨g, 0, none⟩)] W fun e w' => e = .returned (.int .i64 bs.length) ∧ w' = W := by
  obtain ⟨hb, F, ⟨M, k1, k4, k5⟩, k2, k3⟩ := h
  exact left_any g M bs W k1
theorem sit_getbytes {w0 W : World} {T : List Thing} {g : Nat} {bs : List Int} (h : Sit w0 W (.inn g bs :: T)) :
    Calls Try.prog 21 #[.pointer (some ⟨g, 0, none⟩)] W fun e w' => ∃ A c, e = .returned (.tuple #[.slice A (getBytes bs).v.length c, .int .i64 (getBytes bs).e]) ∧ (getBytes bs).v.length ≤ c ∧ Sit w0 w' (.row (.slice A (getBytes bs).v.length c) (getBytes bs).v :: .inn g (getBytes bs).left :: T) := by
  obtain ⟨hb, F, ⟨M, k1, k4, k5⟩, k2, k3⟩ := h
  refine (getbytes_any g M bs W k1).mono ?_
  rintro e w' ⟨v, rfl, hv, hi, hw⟩
  obtain ⟨A, c, rfl⟩ := own_slice (Kd.own_of_R hv)
  have hs := sit_in hb k2 k3 k4 k5 hi hw
  obtain ⟨hb', F', j1, j2, j3⟩ := sit_in hb k2 k3 k4 k5 hi hw
  refine ⟨A, c, rfl, (Kd.R_reads' hv).2.1, ?_⟩
  have hr : Lies w' (.row (.slice A (getBytes bs).v.length c) (getBytes bs).v) (fun k => W.heap.size ≤ k ∧ k < w'.heap.size) := R_zero hv
  refine ⟨hb', _, hr, fun k hk => ⟨Nat.le_trans hb.size hk.1, hk.2, fun h => h⟩, F, ⟨M, hi, k4, k5⟩, fun k hk => ⟨(k2 k hk).1, Nat.lt_of_lt_of_le (k2 k hk).2.1 hw.size, fun h => ?_⟩, ?_⟩
  · rcases h with h | h
    · exact h
    · have := h.1
      have := (k2 k hk).2.1
      omega
  · have h4 : All W w0.heap.size T (fun k => F k ∨ W.heap.size ≤ k) := k3.mono (fun k hl h => by
      rcases h with h | h
      · exact .inr h
      · omega)
    exact (h4.kept (hw.mono (T := F) (fun k hk => by subst hk; exact k4)) (fun k _ hk => .inl hk)).mono (fun k _ h => by
      rcases h with (h | h) | h
      · exact h.elim
      · exact .inr h.1
      · exact .inl h)
theorem sit_newin {w0 W : World} {T : List Thing} {A : Option Addr} {c : Nat} {b : List Int} (h : Sit w0 W T) (hC : Kd.C (Kd.int .u8) W A b.length b) (hc : b.length ≤ c) (hb : Bytes b) (hl : b.length ≤ 140737488351232) :
    Calls Try.prog 16 #[.slice A b.length c] W fun e w' => ∃ g, e = .returned (.pointer (some ⟨g, 0, none⟩)) ∧ Sit w0 w' (.inn g b :: T) := by
  refine (newin_any A c b W hC hc hb hl).mono ?_
  rintro e w' ⟨g, rfl, hi, hg, hbl⟩
  have hlt := hi.open_
  obtain ⟨_, _, _, _, _, _, _, hlt⟩ := hlt
  exact ⟨g, rfl, h.add hbl (t := .inn g b) (F := fun k => W.heap.size ≤ k ∧ k ≤ g) ⟨_, hi, ⟨hg, Nat.le_refl _⟩, fun k hk => ⟨hk.1, Nat.le_of_lt hk.2⟩⟩ (fun k hk => ⟨hk.1, Nat.lt_of_le_of_lt hk.2 hlt⟩)⟩
end Go.Proofs.Ytamgeophebillaa.Code
