/- What a call may have turned, and copies of whole elements. General, no function of the program in it. -/
import Derived.Test.YtjhdjkanepdgiaaWMore
import Derived.Deep.RegionLaw
import Derived.Deep.RegionLawGrows
import Derived.Laws.CopyOwn
namespace Go.Proofs.Ytjhdjkanepdgiaa.Sl
open Go.RowKit Go.Proofs.YtjhdjkanepdgiaaW.PrintWords Go.Proofs.YtjhdjkanepdgiaaW.PrintLast Go.Proofs.YtjhdjkanepdgiaaW.PrintMore
set_option linter.unusedVariables false

/-- What a call may have turned: the blocks of S, and what is new. -/
structure Went (S : Nat → Prop) (w W : World) : Prop where
  os : W.os = w.os
  tape : W.tape = w.tape
  output : W.output = w.output
  kept : Kept w W S
theorem Went.refl (S : Nat → Prop) (w : World) : Went S w w := ⟨rfl, rfl, rfl, Kept.refl _ _⟩
theorem Went.mono {S T : Nat → Prop} {w W : World} (h : Went S w W) (hs : ∀ k, S k → T k) : Went T w W := ⟨h.os, h.tape, h.output, h.kept.mono hs⟩
theorem Went.trans {S T U : Nat → Prop} {w w1 w2 : World} (h : Went S w w1) (k : Went T w1 w2) (hs : ∀ k, S k → U k) (ht : ∀ k, T k → U k ∨ w.heap.size ≤ k) : Went U w w2 :=
  ⟨k.os.trans h.os, k.tape.trans h.tape, k.output.trans h.output, (h.kept.mono hs).then_ k.kept ht⟩
theorem Went.of_below {w W : World} (h : Below w.heap.size w W) (S : Nat → Prop) : Went S w W := ⟨h.os, h.tape, h.output, Kept.of_below h S⟩
theorem Went.size {S : Nat → Prop} {w W : World} (h : Went S w W) : w.heap.size ≤ W.heap.size := h.kept.1
theorem Went.below {S : Nat → Prop} {B : Nat} {w0 w W : World} (h : Went S w W) (hb : Below B w0 w) (hB : B ≤ w.heap.size) (hs : ∀ k, S k → B ≤ k) : Below B w0 W :=
  ⟨h.os.trans hb.os, h.tape.trans hb.tape, h.output.trans hb.output, Nat.le_trans hb.size h.size, fun k hk => (h.kept.2 k (Nat.lt_of_lt_of_le hk hB) (fun hS => by have := hs k hS; omega)).trans (hb.block k hk)⟩
theorem Went.block {S : Nat → Prop} {w W : World} (h : Went S w W) {k : Nat} {o : Obj} (hk : w.heap[k]? = some o) (hn : ¬ S k) : W.heap[k]? = some o := blk_kept hk h.kept hn
theorem Went.setCell {S : Nat → Prop} {w W : World} (h : Went S w W) {a : Addr} (ha : S a.block ∨ w.heap.size ≤ a.block) (u : Value) : Went S w (W.setCell a u) :=
  ⟨h.os, h.tape, h.output, h.kept.setCell ha u⟩
theorem Went.alloc {S : Nat → Prop} {w W : World} (h : Went S w W) (o : Obj) : Went S w (W.alloc o) := ⟨h.os, h.tape, h.output, h.kept.alloc o⟩
theorem Went.drewN {S : Nat → Prop} {w W : World} (h : Went S w W) (n : Nat) : Went S w (W.drewN n) := ⟨h.os, h.tape, h.output, h.kept.drewN n⟩
theorem Went.drew {S : Nat → Prop} {w W : World} (h : Went S w W) : Went S w W.drew := ⟨h.os, h.tape, h.output, h.kept.drew⟩
theorem Went.grown {S : Nat → Prop} {w W W' : World} {row : Option Nat} (h : Went S w W) (hg : W.grownBy W' row) (hr : ∀ k, row = some k → S k ∨ w.heap.size ≤ k) : Went S w W' :=
  ⟨hg.os.trans h.os, hg.tape.trans h.tape, hg.output.trans h.output, h.kept.of_grown hg hr |> fun k => k⟩
theorem Went.setq {S : Nat → Prop} {w W : World} {q o : Nat} (h : Went S w W) (hs : S q ∨ w.heap.size ≤ q) (u : Value) : Went S w (W.setCell ⟨q, o, none⟩ u) := h.setCell (a := ⟨q, o, none⟩) hs u
theorem setCells_went (g o : Nat) (vs : List Value) (w : World) : Went (fun k => k = g) w (w.setCells g o vs) := by
  obtain ⟨h1, h2, h3, h4⟩ := setCells_same g vs o w
  exact ⟨h1, h2, h3, by rw [h4]; exact Nat.le_refl _, fun k hk hn => setCells_far vs o k hn⟩

/-! #### A row of cells at the head of a block of one's own -/
/-- n elements of SZ cells, of type E, at the head of block g. -/
def Rowed (E : TypeId) (SZ : Nat) (w : World) (g cap n : Nat) (xs : List Value) : Prop :=
  xs.length = n * SZ ∧ ∃ cur, w.heap[g]? = some (.cells cur E (0, 0)) ∧ n ≤ cap ∧ cap ≤ maxLen ∧ cur.size = cap * SZ ∧ cur.toList.take (n * SZ) = xs
section
variable {E : TypeId} {SZ : Nat} {w W : World} {g cap n : Nat} {xs : List Value}
theorem Rowed.lt (h : Rowed E SZ w g cap n xs) : g < w.heap.size := by obtain ⟨_, cur, h, _⟩ := h; exact (Array.getElem?_eq_some_iff.1 h).1
theorem Rowed.room (h : Rowed E SZ w g cap n xs) : n ≤ cap ∧ cap ≤ 9223372036854775807 := by obtain ⟨_, cur, _, h1, h2, _⟩ := h; exact ⟨h1, by simpa [maxLen] using h2⟩
theorem Rowed.went {S : Nat → Prop} (h : Rowed E SZ w g cap n xs) (hw : Went S w W) (hn : ¬ S g) : Rowed E SZ W g cap n xs := by
  obtain ⟨h0, cur, h, r⟩ := h
  exact ⟨h0, cur, hw.block h hn, r⟩
theorem Rowed.cell (h : Rowed E SZ w g cap n xs) {j : Nat} {u : Value} (hj : xs[j]? = some u) : w.cell? ⟨g, j, none⟩ = some u ∧ w.frozen? ⟨g, j, none⟩ = false := by
  obtain ⟨h0, cur, h1, h2, h3, h4, rfl⟩ := h
  refine ⟨?_, by simp [World.frozen?, h1]⟩
  rw [cell_of_row _ _ _ _ _ _ h1]
  rw [List.getElem?_take] at hj
  split at hj
  · simpa using hj
  · cases hj
theorem Rowed.has (h : Rowed E SZ w g cap n xs) {j : Nat} (hj : j < cap * SZ) : (w.cell? ⟨g, j, none⟩).isSome = true ∧ w.frozen? ⟨g, j, none⟩ = false := by
  obtain ⟨h0, cur, h1, h2, h3, h4, rfl⟩ := h
  refine ⟨?_, by simp [World.frozen?, h1]⟩
  rw [cell_of_row _ _ _ _ _ _ h1, Array.getElem?_eq_getElem (by omega)]
  rfl
theorem Rowed.own {base : Nat} (h : Rowed E SZ w g cap n xs) (hb : base ≤ g) : w.ownsRow base E SZ (.slice (some ⟨g, 0, none⟩) n cap) n xs := by
  obtain ⟨h0, cur, h1, h2, h3, h4, h5⟩ := h
  exact ⟨h0, .inr ⟨g, cap, cur, rfl, hb, h1, h2, h3, h4, h5⟩⟩
theorem Rowed.of_own {base : Nat} {A : Option Addr} (h : w.ownsRow base E SZ (.slice A n cap) n xs) (hn : 0 < n) : ∃ g, A = some ⟨g, 0, none⟩ ∧ base ≤ g ∧ Rowed E SZ w g cap n xs := by
  obtain ⟨h0, h | ⟨g, cap', cur, hv, hb, hh, h2, h3, h4, h5⟩⟩ := h
  · omega
  · injection hv with e1 e2 e3
    subst e1 e3
    exact ⟨g, rfl, hb, h0, cur, hh, h2, h3, h4, h5⟩
/-- Cells stored into the row, at an element's place; what of it counts then. -/
theorem Rowed.stored (h : Rowed E SZ w g cap n xs) (i m k : Nat) (ys : List Value) (hy : ys.length = m * SZ) (hi : i + m ≤ cap) (hk : k ≤ cap) (zs : List Value) (hz : zs.length = k * SZ)
    (he : ∀ cur : List Value, cur.take (n * SZ) = xs → cur.length = cap * SZ → (cur.take (i * SZ) ++ ys ++ cur.drop (i * SZ + ys.length)).take (k * SZ) = zs) : Rowed E SZ (w.setCells g (i * SZ) ys) g cap k zs := by
  obtain ⟨h0, cur, h1, h2, h3, h4, h5⟩ := h
  have hle : i * SZ + ys.length ≤ cur.size := by
    rw [h4, hy, ← Nat.add_mul]
    exact Nat.mul_le_mul_right _ hi
  obtain ⟨cur', e1, e2, e3⟩ := setCells_row ys (i * SZ) w cur h1 hle
  exact ⟨hz, cur', e1, hk, h3, by rw [e2, h4], by rw [e3]; exact he cur.toList h5 (by simpa using h4)⟩
end
end Go.Proofs.Ytjhdjkanepdgiaa.Sl
