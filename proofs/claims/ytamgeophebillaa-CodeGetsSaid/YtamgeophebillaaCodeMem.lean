/- How what is put lies in memory: a block with a slice's header, and a row of bytes of its own; what a call may turn. No conditions beside those that each lemma states. -/
import Derived.Test.YtamgeophebillaaPa0
import Derived.Test.YtamgeophebillaaInRound
import Derived.RegionTactic
import Derived.BigRegion
import Derived.ChangeAlike
import Derived.Deep.RegionLaw
namespace Go.Proofs.Ytamgeophebillaa.Code
open Go.RowKit Go.Proofs.Ytamgeophebillaa.Pa Go.Proofs.YtamgeophebillaaW.PrintWords Go.Proofs.YtamgeophebillaaW.PrintLast Go.Proofs.YtamgeophebillaaW.PrintMore
set_option linter.unusedVariables false

/-- What a call may have turned: the blocks of S, and what is new. -/
structure Went (S : Nat → Prop) (w W : World) : Prop where
  os : W.os = w.os
  tape : W.tape = w.tape
  output : W.output = w.output
  kept : Kept w W S
theorem Went.refl (S : Nat → Prop) (w : World) : Went S w w := ⟨rfl, rfl, rfl, Kept.refl _ _⟩
theorem Went.mono {S T : Nat → Prop} {w W : World} (h : Went S w W) (hs : ∀ k, S k → T k) : Went T w W := ⟨h.os, h.tape, h.output, h.kept.mono hs⟩
theorem Went.trans {S T U : Nat → Prop} {w w1 w2 : World} (h : Went S w w1) (k : Went T w1 w2) (hs : ∀ k, S k → U k) (ht : ∀ k, T k → U k ∨ w.heap.size ≤ k) : Went U w w2 :=
  ⟨k.os.trans h.os, k.tape.trans h.tape, k.output.trans h.output, (h.kept.mono hs).then_ k.kept ht⟩
theorem Went.of_below {w W : World} (h : Below w.heap.size w W) (S : Nat → Prop) : Went S w W := ⟨h.os, h.tape, h.output, Kept.of_below h S⟩
theorem Went.size {S : Nat → Prop} {w W : World} (h : Went S w W) : w.heap.size ≤ W.heap.size := h.kept.1
theorem Went.below {S : Nat → Prop} {B : Nat} {w0 w W : World} (h : Went S w W) (hb : Below B w0 w) (hB : B ≤ w.heap.size) (hs : ∀ k, S k → B ≤ k) : Below B w0 W :=
  ⟨h.os.trans hb.os, h.tape.trans hb.tape, h.output.trans hb.output, Nat.le_trans hb.size h.size, fun k hk => (h.kept.2 k (Nat.lt_of_lt_of_le hk hB) (fun hS => by have := hs k hS; omega)).trans (hb.block k hk)⟩
theorem Went.block {S : Nat → Prop} {w W : World} (h : Went S w W) {k : Nat} {o : Obj} (hk : w.heap[k]? = some o) (hn : ¬ S k) : W.heap[k]? = some o := blk_kept hk h.kept hn
theorem Went.setCell {S : Nat → Prop} {w W : World} (h : Went S w W) {a : Addr} (ha : S a.block ∨ w.heap.size ≤ a.block) (u : Value) : Went S w (W.setCell a u) :=
  ⟨h.os, h.tape, h.output, h.kept.setCell ha u⟩
theorem Went.alloc {S : Nat → Prop} {w W : World} (h : Went S w W) (o : Obj) : Went S w (W.alloc o) := ⟨h.os, h.tape, h.output, h.kept.alloc o⟩
theorem Went.drewN {S : Nat → Prop} {w W : World} (h : Went S w W) (n : Nat) : Went S w (W.drewN n) := ⟨h.os, h.tape, h.output, h.kept.drewN n⟩
theorem Went.drew {S : Nat → Prop} {w W : World} (h : Went S w W) : Went S w W.drew := ⟨h.os, h.tape, h.output, h.kept.drew⟩
theorem Went.grown {S : Nat → Prop} {w W W' : World} {row : Option Nat} (h : Went S w W) (hg : W.grownBy W' row) (hr : ∀ k, row = some k → S k ∨ w.heap.size ≤ k) : Went S w W' :=
  ⟨hg.os.trans h.os, hg.tape.trans h.tape, hg.output.trans h.output, h.kept.of_grown hg hr |> fun k => k⟩
theorem Went.putObj {S : Nat → Prop} {w W : World} (h : Went S w W) {l : Nat} (hl : w.heap.size ≤ l) (o : Obj) : Went S w (W.putObj l o) :=
  h.grown (grownBy_putObj' W l o) (fun k e => by cases e; exact .inr hl)
theorem Went.setq {S : Nat → Prop} {w W : World} {q o : Nat} (h : Went S w W) (hs : S q ∨ w.heap.size ≤ q) (u : Value) : Went S w (W.setCell ⟨q, o, none⟩ u) := h.setCell (a := ⟨q, o, none⟩) hs u
theorem heap_setCell {w : World} {g o : Nat} {cur : Array Value} {e : TypeId} (h : w.heap[g]? = some (.cells cur e (0, 0))) (u : Value) :
    (w.setCell ⟨g, o, none⟩ u).heap[g]? = some (.cells (cur.setIfInBounds o u) e (0, 0)) := by
  simp [World.setCell, Array.getElem?_modify, h]

/-- The block of what is put, or got. -/
def Head (w : World) (q : Nat) (A : Option Addr) (n cap : Nat) : Prop := w.heap[q]? = some (.cells #[.slice A n cap] 28 (0, 0))
theorem Head.cell {w : World} {q n cap : Nat} {A : Option Addr} (h : Head w q A n cap) : w.cell? ⟨q, 0, none⟩ = some (.slice A n cap) ∧ w.frozen? ⟨q, 0, none⟩ = false := by
  unfold Head at h
  exact ⟨by rw [cell_of_row _ _ _ _ _ _ h]; rfl, by simp [World.frozen?, h]⟩
theorem Head.lt {w : World} {q n cap : Nat} {A : Option Addr} (h : Head w q A n cap) : q < w.heap.size := (Array.getElem?_eq_some_iff.1 h).1
theorem Head.kept {w W : World} {q n cap : Nat} {A : Option Addr} {S : Nat → Prop} (k : Head w q A n cap) (hw : Went S w W) (hn : ¬ S q) : Head W q A n cap := hw.block k hn
theorem Head.set {w : World} {q n cap : Nat} {A : Option Addr} (h : Head w q A n cap) (A' : Option Addr) (n' cap' : Nat) : Head (w.setCell ⟨q, 0, none⟩ (.slice A' n' cap')) q A' n' cap' := by
  unfold Head at *
  rw [heap_setCell h]
  rfl
/-- What was put, at block q; its blocks are among F. -/
def Out (w : World) (q : Nat) (F : Nat → Prop) (bs : List Int) : Prop :=
  ∃ A cap, Head w q A bs.length cap ∧ Kd.R (Kd.int .u8) 5 w 0 (fun k => F k ∧ k ≠ q) (.slice A bs.length cap) bs ∧ F q ∧ ∀ k, F k → k < w.heap.size
def OutTurned (w : World) (q : Nat) (F : Nat → Prop) (bs : List Int) (w' : World) : Prop := ∃ F', Out w' q F' bs ∧ (∀ k, F' k → F k ∨ w.heap.size ≤ k) ∧ Went F w w'
theorem Out.kept {w W : World} {q : Nat} {F S : Nat → Prop} {bs : List Int} (k : Out w q F bs) (hw : Went S w W) (hn : ∀ k, F k → ¬ S k) : Out W q F bs := by
  obtain ⟨A, cap, h1, h2, h3, h4⟩ := k
  exact ⟨A, cap, h1.kept hw (hn q h3), Kd.R_kept h2 hw.kept (fun k hk => hn k hk.1), h3, fun k hk => Nat.lt_of_lt_of_le (h4 k hk) hw.size⟩
theorem Out.lt {w : World} {q : Nat} {F : Nat → Prop} {bs : List Int} (k : Out w q F bs) : q < w.heap.size := by obtain ⟨_, _, h, _⟩ := k; exact h.lt
theorem Out.below {w W : World} {q : Nat} {F : Nat → Prop} {bs : List Int} (k : Out w q F bs) (hb : Below w.heap.size w W) : Out W q F bs := k.kept (Went.of_below hb (fun _ => False)) (fun _ _ h => h)
theorem OutTurned.refl {w : World} {q : Nat} {F : Nat → Prop} {bs : List Int} (k : Out w q F bs) : OutTurned w q F bs w := ⟨F, k, fun _ h => .inl h, Went.refl _ _⟩
theorem OutTurned.after {w w1 w2 : World} {q : Nat} {F F1 : Nat → Prop} {bs : List Int} (hF : ∀ k, F1 k → F k ∨ w.heap.size ≤ k) (hW : Went F w w1) (k : OutTurned w1 q F1 bs w2) : OutTurned w q F bs w2 := by
  obtain ⟨F2, k1, k2, k3⟩ := k
  refine ⟨F2, k1, fun k hk => ?_, hW.trans k3 (fun _ h => h) hF⟩
  rcases k2 k hk with h | h
  · exact hF k h
  · exact .inr (Nat.le_trans hW.size h)
theorem OutTurned.behind {w w1 w2 : World} {q : Nat} {F : Nat → Prop} {bs : List Int} (hb : Below w.heap.size w w1) (k : OutTurned w1 q F bs w2) : OutTurned w q F bs w2 :=
  k.after (fun _ h => .inl h) (Went.of_below hb F)
theorem OutTurned.then_below {w w1 w2 : World} {q : Nat} {F : Nat → Prop} {bs : List Int} (k : OutTurned w q F bs w1) (hb : Below w1.heap.size w1 w2) : OutTurned w q F bs w2 := by
  obtain ⟨F2, k1, k2, k3⟩ := k
  exact ⟨F2, k1.below hb, k2, k3.trans (Went.of_below hb (fun _ => False)) (fun _ h => h) (fun _ h => h.elim)⟩
/-- What an append to the row, stored back, leaves. -/
theorem Out.stored {w w1 : World} {q n cap : Nat} {F : Nat → Prop} {bs cs : List Int} {A A1 : Option Addr} {c1 : Nat} (h1 : Head w q A bs.length cap) (h2 : Kd.R (Kd.int .u8) 5 w 0 (fun k => F k ∧ k ≠ q) (.slice A bs.length cap) bs) (h3 : F q) (h4 : ∀ k, F k → k < w.heap.size)
    (ho : Kd.R (Kd.int .u8) 5 w1 0 (fun k => (F k ∧ k ≠ q) ∨ w.heap.size ≤ k) (.slice A1 cs.length c1) cs) (hg : w.grownBy w1 (Value.slice A bs.length cap).ownBlock) : OutTurned w q F cs (w1.setCell ⟨q, 0, none⟩ (.slice A1 cs.length c1)) := by
  have hne : some q ≠ (Value.slice A bs.length cap).ownBlock := fun e => (h2.1 q e.symm).2 rfl
  have hh : Head w1 q A bs.length cap := (hg.block q h1.lt hne).trans h1
  have hw1 : Went F w w1 := ⟨hg.os, hg.tape, hg.output, hg.size, fun i hi hn => hg.block i hi (fun e => hn (h2.1 i e.symm).1)⟩
  have hs : Went (fun k => k = q) w1 (w1.setCell ⟨q, 0, none⟩ (.slice A1 cs.length c1)) := Went.setq (S := fun k => k = q) (Went.refl _ w1) (.inl rfl) _
  have ho2 := Kd.R_bound ho
  refine ⟨fun k => k = q ∨ (((F k ∧ k ≠ q) ∨ w.heap.size ≤ k) ∧ k < w1.heap.size), ⟨A1, c1, hh.set _ _ _, ?_, .inl rfl, fun k hk => ?_⟩, fun k hk => ?_, hw1.trans hs (fun _ h => h) (fun k hk => by subst hk; exact .inl h3)⟩
  · refine Kd.R_mono (Kd.R_kept ho2 hs.kept (fun k hk e => ?_)) (fun k hk => ⟨.inr ⟨hk.1, hk.2.2.1⟩, ?_⟩)
    · subst e
      rcases hk.1 with h | h
      · exact h.2 rfl
      · have := h1.lt; omega
    · rcases hk.1 with h | h
      · exact h.2
      · have := h1.lt; omega
  · have e1 : (w1.setCell ⟨q, 0, none⟩ (.slice A1 cs.length c1)).heap.size = w1.heap.size := by simp [World.setCell]
    rw [e1]
    rcases hk with rfl | hk
    · exact hh.lt
    · exact hk.2
  · rcases hk with rfl | ⟨h | h, _⟩
    · exact .inl h3
    · exact .inl h.1
    · exact .inr h
end Go.Proofs.Ytamgeophebillaa.Code
