/- How a queue lies in memory: a block with a slice's header, and the slice's own block of pairs; what a call may turn. No conditions beside those that each lemma states. -/
import Derived.Test.YtghgjjpddemjkaaDuePlain
import Derived.RegionTactic
import Derived.BigRegion
import Derived.ChangeAlike
namespace Go.Proofs.Ytghgjjpddemjkaa.Due
open Go.RowKit Go.Proofs.Ytghgjjpddemjkaa.Pa Go.Proofs.YtghgjjpddemjkaaW.PrintWords Go.Proofs.YtghgjjpddemjkaaW.PrintLast Go.Proofs.YtghgjjpddemjkaaW.PrintMore
set_option linter.unusedVariables false

/-- The cells of pairs. -/
def flat : List D → List Value
  | [] => []
  | d :: r => .int .i64 d.f0 :: .int .i64 d.f1 :: flat r
theorem flat_length : ∀ h : List D, (flat h).length = h.length * 2
  | [] => rfl
  | d :: r => by simp [flat, flat_length r]; omega
theorem flat_append : ∀ h k : List D, flat (h ++ k) = flat h ++ flat k
  | [], k => rfl
  | d :: r, k => by simp [flat, flat_append r k]
theorem flat_get : ∀ (h : List D) (i : Nat), i < h.length → (flat h)[i * 2]? = some (.int .i64 (at' h i).f0) ∧ (flat h)[i * 2 + 1]? = some (.int .i64 (at' h i).f1)
  | [], i, hi => absurd hi (by simp)
  | d :: r, 0, hi => by simp [flat, at']
  | d :: r, i + 1, hi => by
    have := flat_get r i (by simpa using hi)
    have e1 : (i + 1) * 2 = i * 2 + 1 + 1 := by omega
    have e2 : (i + 1) * 2 + 1 = i * 2 + 1 + 1 + 1 := by omega
    rw [e1]
    simpa [flat, at', e2] using this
theorem flat_set : ∀ (h : List D) (i : Nat) (d : D), i < h.length → flat (h.set i d) = ((flat h).set (i * 2) (.int .i64 d.f0)).set (i * 2 + 1) (.int .i64 d.f1)
  | [], i, d, hi => absurd hi (by simp)
  | x :: r, 0, d, hi => by simp [flat]
  | x :: r, i + 1, d, hi => by
    have := flat_set r i d (by simpa using hi)
    have e1 : (i + 1) * 2 = i * 2 + 1 + 1 := by omega
    rw [e1]
    simp [flat, this]
theorem flat_take : ∀ (h : List D) (m : Nat), flat (h.take m) = (flat h).take (m * 2)
  | [], m => by simp [flat]
  | d :: r, 0 => by simp [flat]
  | d :: r, m + 1 => by
    have e1 : (m + 1) * 2 = m * 2 + 1 + 1 := by omega
    simp [flat, flat_take r m, e1]

/-- What a call may have turned: the blocks of S, and what is new. -/
structure Went (S : Nat → Prop) (w W : World) : Prop where
  os : W.os = w.os
  tape : W.tape = w.tape
  output : W.output = w.output
  kept : Kept w W S
theorem Went.refl (S : Nat → Prop) (w : World) : Went S w w := ⟨rfl, rfl, rfl, Kept.refl _ _⟩
theorem Went.mono {S T : Nat → Prop} {w W : World} (h : Went S w W) (hs : ∀ k, S k → T k) : Went T w W := ⟨h.os, h.tape, h.output, h.kept.mono hs⟩
theorem Went.trans {S T U : Nat → Prop} {w w1 w2 : World} (h : Went S w w1) (k : Went T w1 w2) (hs : ∀ k, S k → U k) (ht : ∀ k, T k → U k ∨ w.heap.size ≤ k) : Went U w w2 :=
  ⟨k.os.trans h.os, k.tape.trans h.tape, k.output.trans h.output, (h.kept.mono hs).then_ k.kept ht⟩
theorem Went.of_below {w W : World} (h : Below w.heap.size w W) (S : Nat → Prop) : Went S w W := ⟨h.os, h.tape, h.output, Kept.of_below h S⟩
theorem Went.size {S : Nat → Prop} {w W : World} (h : Went S w W) : w.heap.size ≤ W.heap.size := h.kept.1
theorem Went.below {S : Nat → Prop} {B : Nat} {w0 w W : World} (h : Went S w W) (hb : Below B w0 w) (hB : B ≤ w.heap.size) (hs : ∀ k, S k → B ≤ k) : Below B w0 W :=
  ⟨h.os.trans hb.os, h.tape.trans hb.tape, h.output.trans hb.output, Nat.le_trans hb.size h.size, fun k hk => (h.kept.2 k (Nat.lt_of_lt_of_le hk hB) (fun hS => by have := hs k hS; omega)).trans (hb.block k hk)⟩
theorem Went.block {S : Nat → Prop} {w W : World} (h : Went S w W) {k : Nat} {o : Obj} (hk : w.heap[k]? = some o) (hn : ¬ S k) : W.heap[k]? = some o := blk_kept hk h.kept hn

/-- A block with as many pairs as it has room for; the first of them are h. -/
def Arr (w : World) (g cap : Nat) (h : List D) : Prop :=
  ∃ cur, w.heap[g]? = some (.cells cur 30 (0, 0)) ∧ h.length ≤ cap ∧ cap ≤ maxLen ∧ cur.size = cap * 2 ∧ cur.toList.take (h.length * 2) = flat h
theorem Arr.kept {w W : World} {g cap : Nat} {h : List D} {S : Nat → Prop} (k : Arr w g cap h) (hw : Went S w W) (hn : ¬ S g) : Arr W g cap h := by
  obtain ⟨cur, h1, h2⟩ := k
  exact ⟨cur, hw.block h1 hn, h2⟩
theorem Arr.lt {w : World} {g cap : Nat} {h : List D} (k : Arr w g cap h) : g < w.heap.size := by
  obtain ⟨cur, h1, h2⟩ := k
  exact (Array.getElem?_eq_some_iff.1 h1).1
theorem Arr.cells {w : World} {g cap : Nat} {h : List D} (k : Arr w g cap h) (i : Nat) (hi : i < h.length) :
    w.cell? ⟨g, i * 2, none⟩ = some (.int .i64 (at' h i).f0) ∧ w.cell? ⟨g, i * 2 + 1, none⟩ = some (.int .i64 (at' h i).f1) ∧ w.frozen? ⟨g, i * 2, none⟩ = false ∧ w.frozen? ⟨g, i * 2 + 1, none⟩ = false := by
  obtain ⟨cur, h1, h2, h3, h4, h5⟩ := k
  obtain ⟨c0, c1⟩ := flat_get h i hi
  rw [← h5, List.getElem?_take] at c0 c1
  rw [if_pos (by omega)] at c0 c1
  refine ⟨by rw [cell_of_row _ _ _ _ _ _ h1]; simpa using c0, by rw [cell_of_row _ _ _ _ _ _ h1]; simpa using c1, ?_, ?_⟩
  · simp [World.frozen?, h1]
  · simp [World.frozen?, h1]
theorem heap_setCell {w : World} {g o : Nat} {cur : Array Value} {e : TypeId} (h : w.heap[g]? = some (.cells cur e (0, 0))) (u : Value) :
    (w.setCell ⟨g, o, none⟩ u).heap[g]? = some (.cells (cur.setIfInBounds o u) e (0, 0)) := by
  simp [World.setCell, Array.getElem?_modify, h]
theorem Arr.set {w : World} {g cap : Nat} {h : List D} (k : Arr w g cap h) (i : Nat) (hi : i < h.length) (d : D) :
    Arr ((w.setCell ⟨g, i * 2, none⟩ (.int .i64 d.f0)).setCell ⟨g, i * 2 + 1, none⟩ (.int .i64 d.f1)) g cap (h.set i d) := by
  obtain ⟨cur, h1, h2, h3, h4, h5⟩ := k
  refine ⟨_, heap_setCell (heap_setCell h1 _) _, by simpa using h2, h3, by simpa using h4, ?_⟩
  rw [flat_set h i d hi, ← h5]
  simp [List.take_set]
theorem Went.setCell {S : Nat → Prop} {w W : World} (h : Went S w W) {a : Addr} (ha : S a.block ∨ w.heap.size ≤ a.block) (u : Value) : Went S w (W.setCell a u) :=
  ⟨h.os, h.tape, h.output, h.kept.setCell ha u⟩
theorem Went.alloc {S : Nat → Prop} {w W : World} (h : Went S w W) (o : Obj) : Went S w (W.alloc o) := ⟨h.os, h.tape, h.output, h.kept.alloc o⟩
theorem Went.drewN {S : Nat → Prop} {w W : World} (h : Went S w W) (n : Nat) : Went S w (W.drewN n) := ⟨h.os, h.tape, h.output, h.kept.drewN n⟩
theorem Went.drew {S : Nat → Prop} {w W : World} (h : Went S w W) : Went S w W.drew := ⟨h.os, h.tape, h.output, h.kept.drew⟩
theorem Arr.drewN {w : World} {g cap : Nat} {h : List D} (k : Arr w g cap h) (n : Nat) : Arr (w.drewN n) g cap h := k
theorem Arr.drew {w : World} {g cap : Nat} {h : List D} (k : Arr w g cap h) : Arr w.drew g cap h := k
end Go.Proofs.Ytghgjjpddemjkaa.Due
