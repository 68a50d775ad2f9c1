/- A pair of a time and a number. -/
import Derived.Test.YtjhdjkanepdgiaaPa0
import Derived.RegionTactic
import Derived.BigRegion
import Derived.ChangeAlike
import Derived.Deep.RegionLaw
namespace Go.Proofs.Ytjhdjkanepdgiaa.Pa
open Go Go.RowKit
structure S72 where
  f0 : Int
  f1 : Int
def z72 : S72 := ⟨(0 : Int), (0 : Int)⟩
theorem info72 : (Try.prog.info? 72).map (fun i => (i.zero, i.size, i.bytes)) = some (some (.agg #[(.int .i64 0), (.int .i64 0)]), 2, 16) := by kernel_rfl
end Go.Proofs.Ytjhdjkanepdgiaa.Pa

namespace Go.Proofs.Ytjhdjkanepdgiaa.Due
open Go.Proofs.Ytjhdjkanepdgiaa.Pa
set_option linter.unusedVariables false

abbrev D := S72
/-- Comes a ahead of b? -/
def lt (a b : D) : Bool := decide (a.f0 < b.f0) || (decide (a.f0 = b.f0) && decide (a.f1 < b.f1))
theorem lt_iff (a b : D) : lt a b = true ↔ a.f0 < b.f0 ∨ (a.f0 = b.f0 ∧ a.f1 < b.f1) := by simp [lt]
theorem lt_false (a b : D) : lt a b = false ↔ ¬ (a.f0 < b.f0 ∨ (a.f0 = b.f0 ∧ a.f1 < b.f1)) := by rw [← lt_iff]; simp
theorem lt_irrefl (a : D) : lt a a = false := by rw [lt_false]; omega
theorem lt_asymm {a b : D} (h : lt a b = true) : lt b a = false := by rw [lt_iff] at h; rw [lt_false]; omega
theorem le_trans {a b c : D} (h : lt b a = false) (k : lt c b = false) : lt c a = false := by rw [lt_false] at *; omega
theorem le_antisymm {a b : D} (h : lt b a = false) (k : lt a b = false) : a = b := by
  rw [lt_false] at *
  obtain ⟨a1, a2⟩ := a
  obtain ⟨b1, b2⟩ := b
  simp only at *
  have : a1 = b1 := by omega
  have : a2 = b2 := by omega
  simp [*]

/-- What stands at a place. -/
def at' (l : List D) (i : Nat) : D := l.getD i z72
theorem at_get {l : List D} {i : Nat} (h : i < l.length) : at' l i = l[i] := by simp [at', h]
theorem at_mem {l : List D} {i : Nat} (h : i < l.length) : at' l i ∈ l := by rw [at_get h]; exact List.getElem_mem h
/-- Two change places. -/
def swap (l : List D) (i j : Nat) : List D := (l.set i (at' l j)).set j (at' l i)
theorem swap_length (l : List D) (i j : Nat) : (swap l i j).length = l.length := by simp [swap]
theorem at_swap (l : List D) (i j k : Nat) (hi : i < l.length) (hj : j < l.length) : at' (swap l i j) k = if k = j then at' l i else if k = i then at' l j else at' l k := by
  unfold swap at'
  simp only [List.getD_eq_getElem?_getD, List.getElem?_set]
  by_cases h1 : k = j
  · subst h1
    simp [hj]
  · rw [if_neg (fun e => h1 e.symm), if_neg h1]
    by_cases h2 : k = i
    · subst h2
      simp [hi]
    · rw [if_neg (fun e => h2 e.symm), if_neg h2]
theorem swap_perm (l : List D) (i j : Nat) (hi : i < l.length) (hj : j < l.length) : (swap l i j).Perm l := by
  unfold swap
  rw [at_get hi, at_get hj]
  exact List.set_set_perm hi hj

/-- A child does not come ahead of its parent. -/
def Ok (l : List D) (k : Nat) : Prop := lt (at' l k) (at' l ((k - 1) / 2)) = false
/-- A heap, as far as n, of those whose parents stand from lo on. -/
def Heap (l : List D) (n lo : Nat) : Prop := ∀ k, 0 < k → k < n → lo ≤ (k - 1) / 2 → Ok l k
structure Up (l : List D) (j : Nat) : Prop where
  ok : ∀ k, 0 < k → k < l.length → k ≠ j → Ok l k
  kid : ∀ c, 0 < c → c < l.length → (c - 1) / 2 = j → 0 < j → lt (at' l c) (at' l ((j - 1) / 2)) = false
theorem Up.stop {l : List D} {j : Nat} (h : Up l j) (hj : j = 0 ∨ lt (at' l j) (at' l ((j - 1) / 2)) = false) : Heap l l.length 0 := by
  intro k h0 hk _
  by_cases e : k = j
  · subst e
    rcases hj with hj | hj
    · omega
    · exact hj
  · exact h.ok k h0 hk e
theorem Up.step {l : List D} {j : Nat} (h : Up l j) (h0 : 0 < j) (hj : j < l.length) (hl : lt (at' l j) (at' l ((j - 1) / 2)) = true) : Up (swap l ((j - 1) / 2) j) ((j - 1) / 2) := by
  obtain ⟨i, hi⟩ : ∃ i, i = (j - 1) / 2 := ⟨_, rfl⟩
  rw [← hi] at hl ⊢
  have hij : i < j := by omega
  have sw := fun k => at_swap l i j k (by omega) hj
  refine ⟨fun k k0 hk hne => ?_, fun c c0 hc hpc hi0 => ?_⟩
  · rw [swap_length] at hk
    unfold Ok
    by_cases e : k = j
    · subst e
      rw [← hi, sw k, sw i, if_pos rfl, if_neg (by omega), if_pos rfl]
      exact lt_asymm hl
    · rw [sw k, if_neg e, if_neg hne]
      by_cases e1 : (k - 1) / 2 = j
      · rw [sw, if_pos e1]
        have := h.kid k k0 hk e1 h0
        rwa [← hi] at this
      · by_cases e2 : (k - 1) / 2 = i
        · rw [sw, if_neg e1, if_pos e2]
          have := h.ok k k0 hk e
          unfold Ok at this
          rw [e2] at this
          exact le_trans (lt_asymm hl) this
        · rw [sw, if_neg e1, if_neg e2]
          exact h.ok k k0 hk e
  · rw [swap_length] at hc
    have hp : lt (at' l i) (at' l ((i - 1) / 2)) = false := h.ok i hi0 (by omega) (by omega)
    rw [sw ((i - 1) / 2), if_neg (by omega), if_neg (by omega)]
    by_cases e : c = j
    · subst e
      rw [sw c, if_pos rfl]
      exact hp
    · rw [sw c, if_neg e, if_neg (by omega)]
      have := h.ok c c0 hc e
      unfold Ok at this
      rw [hpc] at this
      exact le_trans hp this
theorem Up.put {l : List D} (h : Heap l l.length 0) (x : D) : Up (l ++ [x]) l.length := by
  have ha : ∀ k, k < l.length → at' (l ++ [x]) k = at' l k := fun k hk => by simp [at', List.getD_eq_getElem?_getD, List.getElem?_append_left hk]
  refine ⟨fun k k0 hk hne => ?_, fun c c0 hc hpc _ => ?_⟩
  · have : k < l.length := by simp at hk; omega
    unfold Ok
    rw [ha k this, ha _ (by omega)]
    exact h k k0 this (Nat.zero_le _)
  · simp at hc
    omega

structure Down (l : List D) (n lo i : Nat) : Prop where
  ok : ∀ k, 0 < k → k < n → lo ≤ (k - 1) / 2 → (k - 1) / 2 ≠ i → Ok l k
  kid : ∀ c, 0 < c → c < n → (c - 1) / 2 = i → 0 < i → lo ≤ (i - 1) / 2 → lt (at' l c) (at' l ((i - 1) / 2)) = false
  low : lo ≤ i
theorem Down.start {l : List D} {n i : Nat} (h : Heap l n (i + 1)) : Down l n i i :=
  ⟨fun k k0 hk hp hne => h k k0 hk (by omega), fun c c0 hc hpc hi hlo => by omega, Nat.le_refl _⟩
theorem Down.stop {l : List D} {n lo i : Nat} (h : Down l n lo i) (hk : ∀ k, k < n → 0 < k → (k - 1) / 2 = i → lt (at' l k) (at' l i) = false) : Heap l n lo := by
  intro k k0 hkn hlo
  by_cases e : (k - 1) / 2 = i
  · unfold Ok
    rw [e]
    exact hk k hkn k0 e
  · exact h.ok k k0 hkn hlo e
theorem Down.step {l : List D} {n lo i j : Nat} (h : Down l n lo i) (hn : n ≤ l.length) (hj : j < n) (h0 : 0 < j) (hp : (j - 1) / 2 = i) (hl : lt (at' l j) (at' l i) = true) (hmin : ∀ k, 0 < k → k < n → (k - 1) / 2 = i → lt (at' l k) (at' l j) = false) : Down (swap l i j) n lo j := by
  have sw := fun k => at_swap l i j k (by omega) (by omega)
  have hlow := h.low
  refine ⟨fun k k0 hk hlo hne => ?_, fun c c0 hc hpc _ hlo => ?_, by omega⟩
  · unfold Ok
    rw [sw ((k - 1) / 2), if_neg hne]
    by_cases e1 : k = j
    · subst e1
      rw [sw k, if_pos rfl, if_pos hp]
      exact lt_asymm hl
    · rw [sw k, if_neg e1]
      by_cases e2 : k = i
      · subst e2
        rw [if_pos rfl, if_neg (by omega)]
        exact h.kid j h0 hj hp k0 hlo
      · rw [if_neg e2]
        by_cases e3 : (k - 1) / 2 = i
        · rw [if_pos e3]
          exact hmin k k0 hk e3
        · rw [if_neg e3]
          exact h.ok k k0 hk hlo e3
  · rw [hp, sw c, sw i, if_neg (by omega), if_neg (by omega), if_neg (by omega), if_pos rfl]
    have := h.ok c c0 hc (by omega) (by omega)
    unfold Ok at this
    rwa [hpc] at this

/-- The first of a heap comes ahead of none of the others. -/
theorem Heap.first {l : List D} (h : Heap l l.length 0) : ∀ k, k < l.length → lt (at' l k) (at' l 0) = false := by
  intro k
  induction k using Nat.strongRecOn with
  | _ k ih =>
    intro hk
    by_cases e : k = 0
    · subst e
      exact lt_irrefl _
    · have h1 := h k (by omega) hk (Nat.zero_le _)
      exact le_trans (ih ((k - 1) / 2) (by omega) (by omega)) h1
theorem Heap.first_mem {l : List D} (h : Heap l l.length 0) (x : D) (hx : x ∈ l) : lt x (at' l 0) = false := by
  obtain ⟨k, hk, rfl⟩ := List.getElem_of_mem hx
  have := h.first k hk
  rwa [at_get hk] at this

/-- Sorted lists. -/
def Sorted (s : List D) : Prop := s.Pairwise fun a b => lt b a = false
def ins (x : D) : List D → List D
  | [] => [x]
  | y :: t => if lt y x = true then y :: ins x t else x :: y :: t
theorem ins_perm (x : D) (s : List D) : (ins x s).Perm (x :: s) := by
  induction s with
  | nil => exact List.Perm.refl _
  | cons y t ih =>
    unfold ins
    split
    · exact (ih.cons y).trans (List.Perm.swap x y t)
    · exact List.Perm.refl _
theorem ins_sorted (x : D) (s : List D) (h : Sorted s) : Sorted (ins x s) := by
  induction s with
  | nil => simp [ins, Sorted]
  | cons y t ih =>
    obtain ⟨h1, h2⟩ := List.pairwise_cons.1 h
    unfold ins
    split
    · rename_i hl
      refine List.pairwise_cons.2 ⟨fun z hz => ?_, ih h2⟩
      rcases List.mem_cons.1 ((ins_perm x t).mem_iff.1 hz) with rfl | hz
      · exact lt_asymm hl
      · exact h1 z hz
    · rename_i hl
      have hl' : lt y x = false := by simpa using hl
      refine List.pairwise_cons.2 ⟨fun z hz => ?_, h⟩
      rcases List.mem_cons.1 hz with rfl | hz
      · exact hl'
      · exact le_trans hl' (h1 z hz)
/-- What a heap holds: a sorted list. -/
structure Holds (h s : List D) : Prop where
  heap : Heap h h.length 0
  sorted : Sorted s
  perm : h.Perm s
theorem Holds.first {h s : List D} {m : D} (k : Holds h (m :: s)) : at' h 0 = m ∧ 0 < h.length := by
  have hl : 0 < h.length := by have := k.perm.length_eq; simp at this; omega
  refine ⟨le_antisymm ?_ ?_, hl⟩
  · have hm : m ∈ h := k.perm.mem_iff.2 (by simp)
    exact k.heap.first_mem m hm
  · have h0 : at' h 0 ∈ m :: s := k.perm.mem_iff.1 (at_mem hl)
    rcases List.mem_cons.1 h0 with e | h0
    · rw [e]; exact lt_irrefl _
    · exact (List.pairwise_cons.1 k.sorted).1 _ h0
/-- Ahead of the sifting: the last one stands first. -/
theorem Holds.swapped {h s : List D} {m : D} (k : Holds h (m :: s)) : Heap (swap h 0 (h.length - 1)) (h.length - 1) 1 := by
  have hl := k.first.2
  intro c c0 hc hp
  unfold Ok
  rw [at_swap _ _ _ _ hl (by omega), at_swap _ _ _ _ hl (by omega), if_neg (by omega), if_neg (by omega), if_neg (by omega), if_neg (by omega)]
  exact k.heap c c0 (by omega) (Nat.zero_le _)
theorem Holds.popped {h s l : List D} {m : D} (k : Holds h (m :: s)) (hp : l.Perm (swap h 0 (h.length - 1))) (hh : Heap l (h.length - 1) 0) (hlast : at' l (h.length - 1) = at' (swap h 0 (h.length - 1)) (h.length - 1)) :
    at' l (h.length - 1) = m ∧ Holds (l.take (h.length - 1)) s := by
  obtain ⟨e0, hl⟩ := k.first
  have hlen : l.length = h.length := by rw [hp.length_eq, swap_length]
  have em : at' l (h.length - 1) = m := by rw [hlast, at_swap _ _ _ _ hl (by omega), if_pos rfl, e0]
  refine ⟨em, ⟨fun c c0 hc _ => ?_, (List.pairwise_cons.1 k.sorted).2, ?_⟩⟩
  · have hc' : c < h.length - 1 := by simp at hc; omega
    have ha : ∀ q, q < h.length - 1 → at' (l.take (h.length - 1)) q = at' l q := fun q hq => by simp [at', List.getD_eq_getElem?_getD, hq]
    unfold Ok
    rw [ha c hc', ha _ (by omega)]
    exact hh c c0 hc' (Nat.zero_le _)
  · have e1 : l = l.take (h.length - 1) ++ [m] := by
      have hd : l.drop (h.length - 1) = [m] := by
        rw [← em, at_get (by omega)]
        rw [List.drop_eq_getElem_cons (by omega)]
        rw [List.drop_of_length_le (by omega)]
      rw [← hd, List.take_append_drop]
    have e2 : (l.take (h.length - 1) ++ [m]).Perm (m :: s) := by
      rw [← e1]
      exact (hp.trans (swap_perm _ _ _ hl (by omega))).trans k.perm
    have e3 : (m :: l.take (h.length - 1)).Perm (m :: s) := (List.perm_append_comm (l₁ := [m])).trans e2
    exact e3.cons_inv
theorem Holds.put {h s l : List D} {x : D} (k : Holds h s) (hp : l.Perm (h ++ [x])) (hh : Heap l l.length 0) : Holds l (ins x s) :=
  ⟨hh, ins_sorted x s k.sorted, hp.trans ((List.perm_append_comm.trans (k.perm.cons x)).trans (ins_perm x s).symm)⟩
theorem Holds.drop {h s l : List D} (k : Holds h s) (p : D → Bool) (hp : l.Perm (h.filter p)) (hh : Heap l l.length 0) : Holds l (s.filter p) :=
  ⟨hh, k.sorted.sublist List.filter_sublist, hp.trans (k.perm.filter p)⟩
theorem Holds.nil : Holds [] [] := ⟨fun k _ hk _ => by simp at hk, List.Pairwise.nil, List.Perm.refl _⟩
theorem Holds.length {h s : List D} (k : Holds h s) : h.length = s.length := k.perm.length_eq
end Go.Proofs.Ytjhdjkanepdgiaa.Due

namespace Go.Proofs.Ytjhdjkanepdgiaa.Due
open Go.RowKit Go.Proofs.Ytjhdjkanepdgiaa.Pa Go.Proofs.YtjhdjkanepdgiaaW.PrintWords Go.Proofs.YtjhdjkanepdgiaaW.PrintLast Go.Proofs.YtjhdjkanepdgiaaW.PrintMore
set_option linter.unusedVariables false

/-- The cells of pairs. -/
def flat : List D → List Value
  | [] => []
  | d :: r => .int .i64 d.f0 :: .int .i64 d.f1 :: flat r
theorem flat_length : ∀ h : List D, (flat h).length = h.length * 2
  | [] => rfl
  | d :: r => by simp [flat, flat_length r]; omega
theorem flat_append : ∀ h k : List D, flat (h ++ k) = flat h ++ flat k
  | [], k => rfl
  | d :: r, k => by simp [flat, flat_append r k]
theorem flat_get : ∀ (h : List D) (i : Nat), i < h.length → (flat h)[i * 2]? = some (.int .i64 (at' h i).f0) ∧ (flat h)[i * 2 + 1]? = some (.int .i64 (at' h i).f1)
  | [], i, hi => absurd hi (by simp)
  | d :: r, 0, hi => by simp [flat, at']
  | d :: r, i + 1, hi => by
    have := flat_get r i (by simpa using hi)
    have e1 : (i + 1) * 2 = i * 2 + 1 + 1 := by omega
    have e2 : (i + 1) * 2 + 1 = i * 2 + 1 + 1 + 1 := by omega
    rw [e1]
    simpa [flat, at', e2] using this
theorem flat_set : ∀ (h : List D) (i : Nat) (d : D), i < h.length → flat (h.set i d) = ((flat h).set (i * 2) (.int .i64 d.f0)).set (i * 2 + 1) (.int .i64 d.f1)
  | [], i, d, hi => absurd hi (by simp)
  | x :: r, 0, d, hi => by simp [flat]
  | x :: r, i + 1, d, hi => by
    have := flat_set r i d (by simpa using hi)
    have e1 : (i + 1) * 2 = i * 2 + 1 + 1 := by omega
    rw [e1]
    simp [flat, this]
theorem flat_take : ∀ (h : List D) (m : Nat), flat (h.take m) = (flat h).take (m * 2)
  | [], m => by simp [flat]
  | d :: r, 0 => by simp [flat]
  | d :: r, m + 1 => by
    have e1 : (m + 1) * 2 = m * 2 + 1 + 1 := by omega
    simp [flat, flat_take r m, e1]

/-- What a call may have turned: the blocks of S, and what is new. -/
structure Went (S : Nat → Prop) (w W : World) : Prop where
  os : W.os = w.os
  tape : W.tape = w.tape
  output : W.output = w.output
  kept : Kept w W S
theorem Went.refl (S : Nat → Prop) (w : World) : Went S w w := ⟨rfl, rfl, rfl, Kept.refl _ _⟩
theorem Went.mono {S T : Nat → Prop} {w W : World} (h : Went S w W) (hs : ∀ k, S k → T k) : Went T w W := ⟨h.os, h.tape, h.output, h.kept.mono hs⟩
theorem Went.trans {S T U : Nat → Prop} {w w1 w2 : World} (h : Went S w w1) (k : Went T w1 w2) (hs : ∀ k, S k → U k) (ht : ∀ k, T k → U k ∨ w.heap.size ≤ k) : Went U w w2 :=
  ⟨k.os.trans h.os, k.tape.trans h.tape, k.output.trans h.output, (h.kept.mono hs).then_ k.kept ht⟩
theorem Went.of_below {w W : World} (h : Below w.heap.size w W) (S : Nat → Prop) : Went S w W := ⟨h.os, h.tape, h.output, Kept.of_below h S⟩
theorem Went.size {S : Nat → Prop} {w W : World} (h : Went S w W) : w.heap.size ≤ W.heap.size := h.kept.1
theorem Went.below {S : Nat → Prop} {B : Nat} {w0 w W : World} (h : Went S w W) (hb : Below B w0 w) (hB : B ≤ w.heap.size) (hs : ∀ k, S k → B ≤ k) : Below B w0 W :=
  ⟨h.os.trans hb.os, h.tape.trans hb.tape, h.output.trans hb.output, Nat.le_trans hb.size h.size, fun k hk => (h.kept.2 k (Nat.lt_of_lt_of_le hk hB) (fun hS => by have := hs k hS; omega)).trans (hb.block k hk)⟩
theorem Went.block {S : Nat → Prop} {w W : World} (h : Went S w W) {k : Nat} {o : Obj} (hk : w.heap[k]? = some o) (hn : ¬ S k) : W.heap[k]? = some o := blk_kept hk h.kept hn

/-- A block with as many pairs as it has room for; the first of them are h. -/
def Arr (w : World) (g cap : Nat) (h : List D) : Prop :=
  ∃ cur, w.heap[g]? = some (.cells cur 72 (0, 0)) ∧ h.length ≤ cap ∧ cap ≤ maxLen ∧ cur.size = cap * 2 ∧ cur.toList.take (h.length * 2) = flat h
theorem Arr.kept {w W : World} {g cap : Nat} {h : List D} {S : Nat → Prop} (k : Arr w g cap h) (hw : Went S w W) (hn : ¬ S g) : Arr W g cap h := by
  obtain ⟨cur, h1, h2⟩ := k
  exact ⟨cur, hw.block h1 hn, h2⟩
theorem Arr.lt {w : World} {g cap : Nat} {h : List D} (k : Arr w g cap h) : g < w.heap.size := by
  obtain ⟨cur, h1, h2⟩ := k
  exact (Array.getElem?_eq_some_iff.1 h1).1
theorem Arr.cells {w : World} {g cap : Nat} {h : List D} (k : Arr w g cap h) (i : Nat) (hi : i < h.length) :
    w.cell? ⟨g, i * 2, none⟩ = some (.int .i64 (at' h i).f0) ∧ w.cell? ⟨g, i * 2 + 1, none⟩ = some (.int .i64 (at' h i).f1) ∧ w.frozen? ⟨g, i * 2, none⟩ = false ∧ w.frozen? ⟨g, i * 2 + 1, none⟩ = false := by
  obtain ⟨cur, h1, h2, h3, h4, h5⟩ := k
  obtain ⟨c0, c1⟩ := flat_get h i hi
  rw [← h5, List.getElem?_take] at c0 c1
  rw [if_pos (by omega)] at c0 c1
  refine ⟨by rw [cell_of_row _ _ _ _ _ _ h1]; simpa using c0, by rw [cell_of_row _ _ _ _ _ _ h1]; simpa using c1, ?_, ?_⟩
  · simp [World.frozen?, h1]
  · simp [World.frozen?, h1]
theorem heap_setCell {w : World} {g o : Nat} {cur : Array Value} {e : TypeId} (h : w.heap[g]? = some (.cells cur e (0, 0))) (u : Value) :
    (w.setCell ⟨g, o, none⟩ u).heap[g]? = some (.cells (cur.setIfInBounds o u) e (0, 0)) := by
  simp [World.setCell, Array.getElem?_modify, h]
theorem Arr.set {w : World} {g cap : Nat} {h : List D} (k : Arr w g cap h) (i : Nat) (hi : i < h.length) (d : D) :
    Arr ((w.setCell ⟨g, i * 2, none⟩ (.int .i64 d.f0)).setCell ⟨g, i * 2 + 1, none⟩ (.int .i64 d.f1)) g cap (h.set i d) := by
  obtain ⟨cur, h1, h2, h3, h4, h5⟩ := k
  refine ⟨_, heap_setCell (heap_setCell h1 _) _, by simpa using h2, h3, by simpa using h4, ?_⟩
  rw [flat_set h i d hi, ← h5]
  simp [List.take_set]
theorem Went.setCell {S : Nat → Prop} {w W : World} (h : Went S w W) {a : Addr} (ha : S a.block ∨ w.heap.size ≤ a.block) (u : Value) : Went S w (W.setCell a u) :=
  ⟨h.os, h.tape, h.output, h.kept.setCell ha u⟩
theorem Went.alloc {S : Nat → Prop} {w W : World} (h : Went S w W) (o : Obj) : Went S w (W.alloc o) := ⟨h.os, h.tape, h.output, h.kept.alloc o⟩
theorem Went.drewN {S : Nat → Prop} {w W : World} (h : Went S w W) (n : Nat) : Went S w (W.drewN n) := ⟨h.os, h.tape, h.output, h.kept.drewN n⟩
theorem Went.drew {S : Nat → Prop} {w W : World} (h : Went S w W) : Went S w W.drew := ⟨h.os, h.tape, h.output, h.kept.drew⟩
theorem Arr.drewN {w : World} {g cap : Nat} {h : List D} (k : Arr w g cap h) (n : Nat) : Arr (w.drewN n) g cap h := k
theorem Arr.drew {w : World} {g cap : Nat} {h : List D} (k : Arr w g cap h) : Arr w.drew g cap h := k
end Go.Proofs.Ytjhdjkanepdgiaa.Due

namespace Go.Proofs.Ytjhdjkanepdgiaa.Due
open Go.RowKit Go.Proofs.Ytjhdjkanepdgiaa.Pa Go.Proofs.YtjhdjkanepdgiaaW.PrintWords Go.Proofs.YtjhdjkanepdgiaaW.PrintLast Go.Proofs.YtjhdjkanepdgiaaW.PrintMore
set_option linter.unusedVariables false

theorem len_any (A : Option Addr) (n c : Nat) (w : World) : Calls Try.prog 69 #[.slice A n c] w fun e w' => e = .returned (.int .i64 n) ∧ w = w' := by
  go_enter Try.func69, Try.ntmps69
  go_wp2
  go_ret
  exact ⟨rfl, rfl⟩

theorem ret_bool {a b : Bool} (h : a = b) : Ending.returned (.bool a) = .returned (.bool b) := by rw [h]
set_option maxRecDepth 100000 in
set_option maxHeartbeats 4000000 in
theorem less_any (g cap : Nat) (h : List D) (i j : Nat) (w : World) (hA : Arr w g cap h) (hi : i < h.length) (hj : j < h.length) (hn : h.length ≤ 1099511627776) :
    Calls Try.prog 70 #[.slice (some ⟨g, 0, none⟩) h.length cap, .int .i64 i, .int .i64 j] w fun e w' => e = .returned (.bool (lt (at' h i) (at' h j))) ∧ Below w.heap.size w w' := by
  obtain ⟨a0, a1, _, _⟩ := hA.cells i hi
  obtain ⟨b0, b1, _, _⟩ := hA.cells j hj
  generalize at' h i = x at a0 a1 ⊢
  generalize at' h j = y at b0 b1 ⊢
  generalize h.length = n at hi hj hn ⊢
  have gl := hA.lt
  clear hA
  have i0 : (i : Int) < (n : Int) := by omega
  have j0 : (j : Int) < (n : Int) := by omega
  go_enter Try.func70, Try.ntmps70
  go_wp2
  go_region
  all_goals go_wp2
  all_goals go_ret
  all_goals refine ⟨ret_bool ?_, ?_⟩
  all_goals first | (simp only [lt]; simp [*]; done) | exact (((Below.refl _ _).alloc (Nat.le_refl _) _).alloc (by simp) _) | exact (((Below.refl _ _).alloc (Nat.le_refl _) _).alloc (by simp) _).drew

set_option maxRecDepth 100000 in
set_option maxHeartbeats 8000000 in
theorem swap_walk (g n cap : Nat) (x y : D) (i j : Nat) (w : World) (hi : i < n) (hj : j < n) (hn : n ≤ 1099511627776)
    (a0 : w.cell? ⟨g, i * 2, none⟩ = some (.int .i64 x.f0)) (a1 : w.cell? ⟨g, i * 2 + 1, none⟩ = some (.int .i64 x.f1)) (a2 : w.frozen? ⟨g, i * 2, none⟩ = false) (a3 : w.frozen? ⟨g, i * 2 + 1, none⟩ = false)
    (b0 : w.cell? ⟨g, j * 2, none⟩ = some (.int .i64 y.f0)) (b1 : w.cell? ⟨g, j * 2 + 1, none⟩ = some (.int .i64 y.f1)) (b2 : w.frozen? ⟨g, j * 2, none⟩ = false) (b3 : w.frozen? ⟨g, j * 2 + 1, none⟩ = false) (hne : ¬ i = j) :
    Calls Try.prog 71 #[.slice (some ⟨g, 0, none⟩) n cap, .int .i64 i, .int .i64 j] w fun e w' => e = .returned (.tuple #[]) ∧
      ∃ m, w' = ((((w.setCell ⟨g, i * 2, none⟩ (.int .i64 y.f0)).setCell ⟨g, i * 2 + 1, none⟩ (.int .i64 y.f1)).setCell ⟨g, j * 2, none⟩ (.int .i64 x.f0)).setCell ⟨g, j * 2 + 1, none⟩ (.int .i64 x.f1)).drewN m := by
  have i0 : (i : Int) < (n : Int) := by omega
  have j0 : (j : Int) < (n : Int) := by omega
  have n1 : ¬ i * 2 = j * 2 := by omega
  have n2 : ¬ i * 2 = j * 2 + 1 := by omega
  have n3 : ¬ i * 2 + 1 = j * 2 := by omega
  have n4 : ¬ i * 2 + 1 = j * 2 + 1 := by omega
  have m1 : ¬ j * 2 = i * 2 := by omega
  have m2 : ¬ j * 2 = i * 2 + 1 := by omega
  have m3 : ¬ j * 2 + 1 = i * 2 := by omega
  have m4 : ¬ j * 2 + 1 = i * 2 + 1 := by omega
  go_enter Try.func71, Try.ntmps71
  go_region
  all_goals (go_end0; exact ⟨rfl, 1, rfl⟩)
set_option maxRecDepth 100000 in
set_option maxHeartbeats 8000000 in
theorem swap_walk_same (g n cap : Nat) (x : D) (i : Nat) (w : World) (hi : i < n) (hn : n ≤ 1099511627776)
    (a0 : w.cell? ⟨g, i * 2, none⟩ = some (.int .i64 x.f0)) (a1 : w.cell? ⟨g, i * 2 + 1, none⟩ = some (.int .i64 x.f1)) (a2 : w.frozen? ⟨g, i * 2, none⟩ = false) (a3 : w.frozen? ⟨g, i * 2 + 1, none⟩ = false) :
    Calls Try.prog 71 #[.slice (some ⟨g, 0, none⟩) n cap, .int .i64 i, .int .i64 i] w fun e w' => e = .returned (.tuple #[]) ∧
      ∃ m, w' = ((((w.setCell ⟨g, i * 2, none⟩ (.int .i64 x.f0)).setCell ⟨g, i * 2 + 1, none⟩ (.int .i64 x.f1)).setCell ⟨g, i * 2, none⟩ (.int .i64 x.f0)).setCell ⟨g, i * 2 + 1, none⟩ (.int .i64 x.f1)).drewN m := by
  have i0 : (i : Int) < (n : Int) := by omega
  go_enter Try.func71, Try.ntmps71
  go_region
  all_goals (go_end0; exact ⟨rfl, 1, rfl⟩)
theorem swap_any (g cap : Nat) (h : List D) (i j : Nat) (w : World) (hA : Arr w g cap h) (hi : i < h.length) (hj : j < h.length) (hn : h.length ≤ 1099511627776) :
    Calls Try.prog 71 #[.slice (some ⟨g, 0, none⟩) h.length cap, .int .i64 i, .int .i64 j] w fun e w' => e = .returned (.tuple #[]) ∧ Arr w' g cap (swap h i j) ∧ Went (fun k => k = g) w w' := by
  obtain ⟨a0, a1, a2, a3⟩ := hA.cells i hi
  obtain ⟨b0, b1, b2, b3⟩ := hA.cells j hj
  have hW : ∀ m, Went (fun k => k = g) w (((((w.setCell ⟨g, i * 2, none⟩ (.int .i64 (at' h j).f0)).setCell ⟨g, i * 2 + 1, none⟩ (.int .i64 (at' h j).f1)).setCell ⟨g, j * 2, none⟩ (.int .i64 (at' h i).f0)).setCell ⟨g, j * 2 + 1, none⟩ (.int .i64 (at' h i).f1)).drewN m) :=
    fun m => by
      have s : ∀ (W : World) (o : Nat) (u : Value), Went (fun k => k = g) w W → Went (fun k => k = g) w (W.setCell ⟨g, o, none⟩ u) := fun W o u h => h.setCell (a := ⟨g, o, none⟩) (.inl rfl) u
      exact (s _ _ _ (s _ _ _ (s _ _ _ (s _ _ _ (Went.refl _ w))))).drewN m
  have hR : Arr ((((w.setCell ⟨g, i * 2, none⟩ (.int .i64 (at' h j).f0)).setCell ⟨g, i * 2 + 1, none⟩ (.int .i64 (at' h j).f1)).setCell ⟨g, j * 2, none⟩ (.int .i64 (at' h i).f0)).setCell ⟨g, j * 2 + 1, none⟩ (.int .i64 (at' h i).f1)) g cap (swap h i j) :=
    (hA.set i hi (at' h j)).set j (by simpa using hj) (at' h i)
  by_cases hne : i = j
  · subst hne
    refine (swap_walk_same g h.length cap (at' h i) i w hi hn a0 a1 a2 a3).mono ?_
    rintro e w' ⟨rfl, m, rfl⟩
    exact ⟨rfl, hR.drewN m, hW m⟩
  · refine (swap_walk g h.length cap (at' h i) (at' h j) i j w hi hj hn a0 a1 a2 a3 b0 b1 b2 b3 hne).mono ?_
    rintro e w' ⟨rfl, m, rfl⟩
    exact ⟨rfl, hR.drewN m, hW m⟩
end Go.Proofs.Ytjhdjkanepdgiaa.Due

namespace Go.Proofs.Ytjhdjkanepdgiaa.Due
open Go.RowKit Go.Proofs.Ytjhdjkanepdgiaa.Pa Go.Proofs.YtjhdjkanepdgiaaW.PrintWords Go.Proofs.YtjhdjkanepdgiaaW.PrintLast Go.Proofs.YtjhdjkanepdgiaaW.PrintMore
set_option linter.unusedVariables false

/-- The block of a queue. -/
def Head (w : World) (q : Nat) (A : Option Addr) (n cap : Nat) : Prop := w.heap[q]? = some (.cells #[.slice A n cap] 69 (0, 0))
theorem Head.cell {w : World} {q n cap : Nat} {A : Option Addr} (h : Head w q A n cap) : w.cell? ⟨q, 0, none⟩ = some (.slice A n cap) ∧ w.frozen? ⟨q, 0, none⟩ = false := by
  unfold Head at h
  exact ⟨by rw [cell_of_row _ _ _ _ _ _ h]; rfl, by simp [World.frozen?, h]⟩
theorem Head.lt {w : World} {q n cap : Nat} {A : Option Addr} (h : Head w q A n cap) : q < w.heap.size := (Array.getElem?_eq_some_iff.1 h).1
theorem Went.setq {w W : World} {q : Nat} (h : Went (fun k => k = q) w W) (o : Nat) (u : Value) : Went (fun k => k = q) w (W.setCell ⟨q, o, none⟩ u) := h.setCell (a := ⟨q, o, none⟩) (.inl rfl) u
theorem Head.kept {w W : World} {q n cap : Nat} {A : Option Addr} {S : Nat → Prop} (k : Head w q A n cap) (hw : Went S w W) (hn : ¬ S q) : Head W q A n cap := hw.block k hn
theorem Head.set {w : World} {q n cap : Nat} {A : Option Addr} (h : Head w q A n cap) (A' : Option Addr) (n' cap' : Nat) : Head (w.setCell ⟨q, 0, none⟩ (.slice A' n' cap')) q A' n' cap' := by
  unfold Head at *
  rw [heap_setCell h]
  rfl
theorem Arr.take {w : World} {g cap : Nat} {h : List D} (k : Arr w g cap h) (m : Nat) (hm : m ≤ h.length) : Arr w g cap (h.take m) := by
  obtain ⟨cur, h1, h2, h3, h4, h5⟩ := k
  have hl : (h.take m).length = m := by simp; omega
  refine ⟨cur, h1, by omega, h3, h4, ?_⟩
  rw [hl, flat_take, ← h5, List.take_take, Nat.min_eq_left (by omega)]
theorem Arr.own {w : World} {g cap : Nat} {h : List D} (k : Arr w g cap h) : w.ownsRow 0 72 2 (.slice (some ⟨g, 0, none⟩) h.length cap) h.length (flat h) := by
  obtain ⟨cur, h1, h2, h3, h4, h5⟩ := k
  exact ⟨flat_length h, .inr ⟨g, cap, cur, rfl, Nat.zero_le _, h1, h2, h3, h4, h5⟩⟩

set_option maxRecDepth 100000 in
set_option maxHeartbeats 4000000 in
theorem pop_any (q g cap : Nat) (h : List D) (n : Nat) (w : World) (hl : h.length = n + 1) (hq : Head w q (some ⟨g, 0, none⟩) h.length cap) (hA : Arr w g cap h) (hne : g ≠ q) (hn : n ≤ 1099511627776) :
    Calls Try.prog 72 #[.pointer (some ⟨q, 0, none⟩)] w fun e w' => e = .returned (.iface 72 (.agg #[.int .i64 (at' h n).f0, .int .i64 (at' h n).f1])) ∧ Head w' q (some ⟨g, 0, none⟩) n cap ∧ Arr w' g cap (h.take n) ∧ Went (fun k => k = q) w w' := by
  obtain ⟨a0, a1, _, _⟩ := hA.cells n (by omega)
  obtain ⟨q0, q1⟩ := hq.cell
  have hcap : n + 1 ≤ cap := by obtain ⟨cur, _, h2, _⟩ := hA; omega
  have hmax : cap ≤ maxLen := by obtain ⟨cur, _, _, h3, _⟩ := hA; omega
  unfold maxLen at hmax
  have HQ := Aside0.mk hq
  have HA := Aside0.mk (hA.take n (by omega))
  rw [hl] at q0
  generalize at' h n = x at a0 a1 ⊢
  have ql := hq.lt
  have gl := hA.lt
  clear hA hq hl
  go_enter Try.func72, Try.ntmps72
  go_wp2
  go_ret
  have hw : Went (fun k => k = q) w ((w.setCell ⟨q, 0, none⟩ (.slice (some ⟨g, 0, none⟩) n cap)).alloc (.cells #[.int .i64 x.f0, .int .i64 x.f1] 72)) := ((Went.refl _ w).setq _ _).alloc _
  have hh : Head ((w.setCell ⟨q, 0, none⟩ (.slice (some ⟨g, 0, none⟩) n cap)).alloc (.cells #[.int .i64 x.f0, .int .i64 x.f1] 72)) q (some ⟨g, 0, none⟩) n cap := (HQ.out.set _ _ _).kept ((Went.refl (fun _ => False) _).alloc _) (fun e => e)
  exact ⟨rfl, hh, HA.out.kept hw hne, hw⟩
theorem assert_due (a b : Int) (w : World) : (Instr.typeAssert (.iface 72 (.agg #[.int .i64 a, .int .i64 b])) 20 72 false).run Try.prog w = .ok (.agg #[.int .i64 a, .int .i64 b]) w := by kernel_rfl

set_option maxRecDepth 100000 in
set_option maxHeartbeats 8000000 in
theorem push_walk (q n cap : Nat) (A : Option Addr) (x : D) (xs : List Value) (w : World) (q0 : w.cell? ⟨q, 0, none⟩ = some (.slice A n cap)) (q1 : w.frozen? ⟨q, 0, none⟩ = false) (ql : q < w.heap.size)
    (hO : w.ownsRow 0 72 2 (.slice A n cap) n xs) (hn : n ≤ 1099511627776) (hq : some q ≠ (Value.slice A n cap).ownBlock) :
    Calls Try.prog 73 #[.pointer (some ⟨q, 0, none⟩), .iface 72 (.agg #[.int .i64 x.f0, .int .i64 x.f1])] w fun e w' => e = .returned (.tuple #[]) ∧
      ∃ v1 w1, w1.ownsRow 0 72 2 v1 (n + 1) (xs ++ [.int .i64 x.f0, .int .i64 x.f1]) ∧ w.grownBy w1 (Value.slice A n cap).ownBlock ∧ (v1.ownBlock = (Value.slice A n cap).ownBlock ∨ ∃ b, v1.ownBlock = some b ∧ w.heap.size ≤ b) ∧ w' = w1.setCell ⟨q, 0, none⟩ v1 := by
  have HO := Aside0.mk hO
  have ta := fun w => assert_due x.f0 x.f1 w
  clear hO
  go_enter Try.func73, Try.ntmps73
  go_region_law (refine step_append_cells (w0 := w) (W := w.drew) 0 (by rfl) (.tmp 7) (.tmp 10) 67 72 (.agg #[.int .i64 0, .int .i64 0]) 2 16 (by rfl) Try.underlying67 info72 rfl (by decide) (by decide) (.slice A n cap) n xs [.int .i64 x.f0, .int .i64 x.f1] (by rfl) (by rfl) rfl (by simp [Value.oneCell']) HO.out ⟨rfl, rfl, rfl, Nat.le_refl _, fun _ _ => rfl⟩ (Nat.zero_le _) (by omega) ?_; intro v1 w1 ho hb hg hat; obtain ⟨A1, c1, rfl⟩ := own_slice ho; have hq0 : w1.cell? ⟨q, 0, none⟩ = some (.slice A n cap) := hg.cell (a := ⟨q, 0, none⟩) q0 hq; have hq1 : w1.frozen? ⟨q, 0, none⟩ = false := (World.frozen?_of_block (hg.block q ql hq)).trans q1; have HX := Aside0.mk (And.intro ho (And.intro hg hat)); clear ho hg hat hb)
  all_goals (go_end0; obtain ⟨ho, hg, hat⟩ := HX.out; exact ⟨rfl, _, w1, ho, ⟨hg.os, hg.tape, hg.output, hg.size, hg.block⟩, hat, rfl⟩)

/-- A queue at block q that holds h, whose blocks are among F. -/
def Raw (w : World) (q : Nat) (F : Nat → Prop) (h : List D) : Prop :=
  ∃ A cap, Head w q A h.length cap ∧ w.ownsRow 0 72 2 (.slice A h.length cap) h.length (flat h) ∧ F q ∧ (∀ k, (Value.slice A h.length cap).ownBlock = some k → F k ∧ k ≠ q) ∧ ∀ k, F k → k < w.heap.size
/-- What a call leaves of a queue, and that it turns nothing else. -/
def Turned (w : World) (q : Nat) (F : Nat → Prop) (h : List D) (w' : World) : Prop := ∃ F', Raw w' q F' h ∧ (∀ k, F' k → F k ∨ w.heap.size ≤ k) ∧ Went F w w'
theorem Raw.lies {w : World} {q : Nat} {F : Nat → Prop} {h : List D} (k : Raw w q F h) (hp : 0 < h.length) : ∃ g cap, Head w q (some ⟨g, 0, none⟩) h.length cap ∧ Arr w g cap h ∧ F q ∧ F g ∧ g ≠ q ∧ ∀ k, F k → k < w.heap.size := by
  obtain ⟨A, cap, h1, h2, h3, h4, h5⟩ := k
  rcases h2.2 with ⟨e, h0⟩ | ⟨g, cap', cur, e, h6, h7⟩
  · omega
  · injection e with e1 e2 e3
    subst e1 e3
    have := h4 g rfl
    exact ⟨g, cap, h1, ⟨cur, h7⟩, h3, this.1, this.2, h5⟩
theorem Raw.of {w : World} {q g cap : Nat} {F : Nat → Prop} {h : List D} {n : Nat} (hn : h.length = n) (h1 : Head w q (some ⟨g, 0, none⟩) n cap) (h2 : Arr w g cap h) (h3 : F q) (h4 : F g) (h5 : g ≠ q) (h6 : ∀ k, F k → k < w.heap.size) : Raw w q F h := by
  subst hn
  refine ⟨_, cap, h1, h2.own, h3, fun k hk => ?_, h6⟩
  have : g = k := by simpa [Value.ownBlock] using hk
  subst this
  exact ⟨h4, h5⟩
theorem Raw.kept {w W : World} {q : Nat} {F S : Nat → Prop} {h : List D} (k : Raw w q F h) (hw : Went S w W) (hn : ∀ k, F k → ¬ S k) : Raw W q F h := by
  obtain ⟨A, cap, h1, h2, h3, h4, h5⟩ := k
  refine ⟨A, cap, h1.kept hw (hn q h3), own_move h2 (fun k hk => ?_), h3, h4, fun k hk => Nat.lt_of_lt_of_le (h5 k hk) hw.size⟩
  exact hw.kept.2 k (h5 k (h4 k hk).1) (hn k (h4 k hk).1)
theorem Raw.length {w : World} {q : Nat} {F : Nat → Prop} {h : List D} (k : Raw w q F h) : h.length ≤ maxLen := by
  obtain ⟨A, cap, h1, h2, _⟩ := k
  rcases h2.2 with ⟨_, h0⟩ | ⟨g, cap', cur, _, _, _, h3, h4, _⟩
  · unfold maxLen; omega
  · omega
theorem Turned.refl {w : World} {q : Nat} {F : Nat → Prop} {h : List D} (k : Raw w q F h) : Turned w q F h w := ⟨F, k, fun _ h => .inl h, Went.refl _ _⟩
theorem Turned.trans {w w1 w2 : World} {q : Nat} {F : Nat → Prop} {h h' : List D} (k : Turned w q F h w1) (hk : ∀ F1, Raw w1 q F1 h → (∀ k, F1 k → F k ∨ w.heap.size ≤ k) → Turned w1 q F1 h' w2) : Turned w q F h' w2 := by
  obtain ⟨F1, h1, h2, h3⟩ := k
  obtain ⟨F2, k1, k2, k3⟩ := hk F1 h1 h2
  refine ⟨F2, k1, fun k hk => ?_, h3.trans k3 (fun _ h => h) h2⟩
  rcases k2 k hk with h | h
  · exact h2 k h
  · exact .inr (Nat.le_trans h3.size h)
theorem Turned.same {w w1 : World} {q : Nat} {F : Nat → Prop} {h h' : List D} (k : Turned w q F h w1) (e : h = h') : Turned w q F h' w1 := e ▸ k
theorem push_any (q : Nat) (F : Nat → Prop) (h : List D) (x : D) (w : World) (hR : Raw w q F h) (hn : h.length ≤ 1099511627776) :
    Calls Try.prog 73 #[.pointer (some ⟨q, 0, none⟩), .iface 72 (.agg #[.int .i64 x.f0, .int .i64 x.f1])] w fun e w' => e = .returned (.tuple #[]) ∧ Turned w q F (h ++ [x]) w' := by
  obtain ⟨A, cap, h1, h2, h3, h4, h5⟩ := hR
  have hq : some q ≠ (Value.slice A h.length cap).ownBlock := fun e => (h4 q e.symm).2 rfl
  refine (push_walk q h.length cap A x (flat h) w h1.cell.1 h1.cell.2 h1.lt h2 hn hq).mono ?_
  rintro e w' ⟨rfl, v1, w1, k1, k2, k3, rfl⟩
  refine ⟨rfl, fun k => k = q ∨ v1.ownBlock = some k, ?_, ?_, ?_⟩
  · obtain ⟨A1, c1, rfl⟩ := own_slice k1
    have hl : (h ++ [x]).length = h.length + 1 := by simp
    have hne : ∀ k, (Value.slice A1 (h.length + 1) c1).ownBlock = some k → k ≠ q := by
      intro k hk e
      subst e
      rcases k3 with e | ⟨b, e, hb⟩
      · exact hq (hk ▸ e.symm ▸ rfl)
      · rw [e] at hk
        injection hk with hk
        have := h1.lt
        omega
    have hh : Head w1 q A h.length cap := (k2.block q h1.lt hq).trans h1
    have ho : w1.ownsRow 0 72 2 (.slice A1 (h.length + 1) c1) (h.length + 1) (flat (h ++ [x])) := by rw [flat_append]; exact k1
    refine ⟨A1, c1, by rw [hl]; exact hh.set _ _ _, ?_, .inl rfl, fun k hk => ?_, fun k hk => ?_⟩
    · rw [hl]
      refine own_move ho (fun k hk => Below.heap_setCell _ _ _ _ (hne k hk))
    · rw [hl] at hk
      exact ⟨.inr hk, hne k hk⟩
    · have hs : (w1.setCell ⟨q, 0, none⟩ (.slice A1 (h.length + 1) c1)).heap.size = w1.heap.size := by simp [World.setCell]
      rw [hs]
      rcases hk with rfl | hk
      · exact Nat.lt_of_lt_of_le h1.lt k2.size
      · exact own_lt k1 k hk
  · rintro k (rfl | hk)
    · exact .inl h3
    · rcases k3 with e | ⟨b, e, hb⟩
      · exact .inl (h4 k (e ▸ hk)).1
      · rw [e] at hk
        injection hk with hk
        exact .inr (by omega)
  · have hg : Went F w w1 := ⟨k2.os, k2.tape, k2.output, k2.size, fun i hi hn => k2.block i hi (fun e => hn (h4 i e.symm).1)⟩
    exact hg.setCell (a := ⟨q, 0, none⟩) (.inl h3) v1
/-! ### Which function a method of the row's pointer is -/
theorem run_wrap {P : Program} (t : TypeId) (a : Addr) (x y : String) (w : World) : (Builtin.ssaWrapNilChk_ #[t] t #[.pointer (some a), strVal x, strVal y]).run P w = .ok (.pointer (some a)) w := by rfl
theorem run_method_load {P : Program} {t elem : TypeId} {name : String} {f : FuncId} {n : Nat} (a : Addr) (w : World)
    (hm : ((P.info? t).bind fun i => i.methods.find? (·.name == name)).map (fun m => (m.path, m.func)) = some (#[], some (f, false)))
    (hu : P.underlying t = some (.pointer elem)) :
    (method (n + 1) t (.pointer (some a)) name).run P w = ((loadVar elem a).run P w).andThen fun v w => .ok (f, v) w := by
  obtain ⟨m, hm1, hm2⟩ := Option.map_eq_some_iff.1 hm
  obtain ⟨i, hi, hf⟩ := Option.bind_eq_some_iff.1 hm1
  obtain ⟨e1, e2⟩ := Prod.mk.inj hm2
  simp [method, typeInfo, hi, hf, e1, e2, follow, receiverAt, run_underlying hu, Place.get]
  rw [run_wrap]
  simp [asAddr]
theorem run_method_ptr {P : Program} {t elem : TypeId} {name : String} {f : FuncId} {n : Nat} (a : Addr) (w : World)
    (hm : ((P.info? t).bind fun i => i.methods.find? (·.name == name)).map (fun m => (m.path, m.func)) = some (#[], some (f, true)))
    (hu : P.underlying t = some (.pointer elem)) :
    (method (n + 1) t (.pointer (some a)) name).run P w = .ok (f, .pointer (some a)) w := by
  obtain ⟨m, hm1, hm2⟩ := Option.map_eq_some_iff.1 hm
  obtain ⟨i, hi, hf⟩ := Option.bind_eq_some_iff.1 hm1
  obtain ⟨e1, e2⟩ := Prod.mk.inj hm2
  simp [method, typeInfo, hi, hf, e1, e2, follow, receiverAt, run_underlying hu, Place.get]
theorem meth_len (q : Nat) (A : Option Addr) (n cap : Nat) (w : World) (h : w.cell? ⟨q, 0, none⟩ = some (.slice A n cap)) : (method 211 79 (.pointer (some ⟨q, 0, none⟩)) "Len").run Try.prog w = .ok (69, .slice A n cap) w := by
  rw [run_method_load (f := 69) _ w (by kernel_rfl) Try.underlying79]
  go_simp
theorem meth_less (q : Nat) (A : Option Addr) (n cap : Nat) (w : World) (h : w.cell? ⟨q, 0, none⟩ = some (.slice A n cap)) : (method 211 79 (.pointer (some ⟨q, 0, none⟩)) "Less").run Try.prog w = .ok (70, .slice A n cap) w := by
  rw [run_method_load (f := 70) _ w (by kernel_rfl) Try.underlying79]
  go_simp
theorem meth_swap (q : Nat) (A : Option Addr) (n cap : Nat) (w : World) (h : w.cell? ⟨q, 0, none⟩ = some (.slice A n cap)) : (method 211 79 (.pointer (some ⟨q, 0, none⟩)) "Swap").run Try.prog w = .ok (71, .slice A n cap) w := by
  rw [run_method_load (f := 71) _ w (by kernel_rfl) Try.underlying79]
  go_simp
theorem meth_push (a : Addr) (w : World) : (method 211 79 (.pointer (some a)) "Push").run Try.prog w = .ok (73, .pointer (some a)) w := run_method_ptr a w (by kernel_rfl) Try.underlying79
theorem meth_pop (a : Addr) (w : World) : (method 211 79 (.pointer (some a)) "Pop").run Try.prog w = .ok (72, .pointer (some a)) w := run_method_ptr a w (by kernel_rfl) Try.underlying79
end Go.Proofs.Ytjhdjkanepdgiaa.Due
