/- Heaps as plain lists of pairs of numbers, kept in the order of time and number; sifting up and down; a sorted list as what a heap holds. No conditions beside those that each lemma states. -/
import Derived.Test.YtghgjjpddemjkaaPa0
namespace Go.Proofs.Ytghgjjpddemjkaa.Due
open Go.Proofs.Ytghgjjpddemjkaa.Pa
set_option linter.unusedVariables false

abbrev D := S30
/-- Comes a ahead of b? -/
def lt (a b : D) : Bool := decide (a.f0 < b.f0) || (decide (a.f0 = b.f0) && decide (a.f1 < b.f1))
theorem lt_iff (a b : D) : lt a b = true ↔ a.f0 < b.f0 ∨ (a.f0 = b.f0 ∧ a.f1 < b.f1) := by simp [lt]
theorem lt_false (a b : D) : lt a b = false ↔ ¬ (a.f0 < b.f0 ∨ (a.f0 = b.f0 ∧ a.f1 < b.f1)) := by rw [← lt_iff]; simp
theorem lt_irrefl (a : D) : lt a a = false := by rw [lt_false]; omega
theorem lt_asymm {a b : D} (h : lt a b = true) : lt b a = false := by rw [lt_iff] at h; rw [lt_false]; omega
theorem le_trans {a b c : D} (h : lt b a = false) (k : lt c b = false) : lt c a = false := by rw [lt_false] at *; omega
theorem le_antisymm {a b : D} (h : lt b a = false) (k : lt a b = false) : a = b := by
  rw [lt_false] at *
  obtain ⟨a1, a2⟩ := a
  obtain ⟨b1, b2⟩ := b
  simp only at *
  have : a1 = b1 := by omega
  have : a2 = b2 := by omega
  simp [*]

/-- What stands at a place. -/
def at' (l : List D) (i : Nat) : D := l.getD i z30
theorem at_get {l : List D} {i : Nat} (h : i < l.length) : at' l i = l[i] := by simp [at', h]
theorem at_mem {l : List D} {i : Nat} (h : i < l.length) : at' l i ∈ l := by rw [at_get h]; exact List.getElem_mem h
/-- Two change places. -/
def swap (l : List D) (i j : Nat) : List D := (l.set i (at' l j)).set j (at' l i)
theorem swap_length (l : List D) (i j : Nat) : (swap l i j).length = l.length := by simp [swap]
theorem at_swap (l : List D) (i j k : Nat) (hi : i < l.length) (hj : j < l.length) : at' (swap l i j) k = if k = j then at' l i else if k = i then at' l j else at' l k := by
  unfold swap at'
  simp only [List.getD_eq_getElem?_getD, List.getElem?_set]
  by_cases h1 : k = j
  · subst h1
    simp [hj]
  · rw [if_neg (fun e => h1 e.symm), if_neg h1]
    by_cases h2 : k = i
    · subst h2
      simp [hi]
    · rw [if_neg (fun e => h2 e.symm), if_neg h2]
theorem swap_perm (l : List D) (i j : Nat) (hi : i < l.length) (hj : j < l.length) : (swap l i j).Perm l := by
  unfold swap
  rw [at_get hi, at_get hj]
  exact List.set_set_perm hi hj

/-- A child does not come ahead of its parent. -/
def Ok (l : List D) (k : Nat) : Prop := lt (at' l k) (at' l ((k - 1) / 2)) = false
/-- A heap, as far as n, of those whose parents stand from lo on. -/
def Heap (l : List D) (n lo : Nat) : Prop := ∀ k, 0 < k → k < n → lo ≤ (k - 1) / 2 → Ok l k
structure Up (l : List D) (j : Nat) : Prop where
  ok : ∀ k, 0 < k → k < l.length → k ≠ j → Ok l k
  kid : ∀ c, 0 < c → c < l.length → (c - 1) / 2 = j → 0 < j → lt (at' l c) (at' l ((j - 1) / 2)) = false
theorem Up.stop {l : List D} {j : Nat} (h : Up l j) (hj : j = 0 ∨ lt (at' l j) (at' l ((j - 1) / 2)) = false) : Heap l l.length 0 := by
  intro k h0 hk _
  by_cases e : k = j
  · subst e
    rcases hj with hj | hj
    · omega
    · exact hj
  · exact h.ok k h0 hk e
theorem Up.step {l : List D} {j : Nat} (h : Up l j) (h0 : 0 < j) (hj : j < l.length) (hl : lt (at' l j) (at' l ((j - 1) / 2)) = true) : Up (swap l ((j - 1) / 2) j) ((j - 1) / 2) := by
  obtain ⟨i, hi⟩ : ∃ i, i = (j - 1) / 2 := ⟨_, rfl⟩
  rw [← hi] at hl ⊢
  have hij : i < j := by omega
  have sw := fun k => at_swap l i j k (by omega) hj
  refine ⟨fun k k0 hk hne => ?_, fun c c0 hc hpc hi0 => ?_⟩
  · rw [swap_length] at hk
    unfold Ok
    by_cases e : k = j
    · subst e
      rw [← hi, sw k, sw i, if_pos rfl, if_neg (by omega), if_pos rfl]
      exact lt_asymm hl
    · rw [sw k, if_neg e, if_neg hne]
      by_cases e1 : (k - 1) / 2 = j
      · rw [sw, if_pos e1]
        have := h.kid k k0 hk e1 h0
        rwa [← hi] at this
      · by_cases e2 : (k - 1) / 2 = i
        · rw [sw, if_neg e1, if_pos e2]
          have := h.ok k k0 hk e
          unfold Ok at this
          rw [e2] at this
          exact le_trans (lt_asymm hl) this
        · rw [sw, if_neg e1, if_neg e2]
          exact h.ok k k0 hk e
  · rw [swap_length] at hc
    have hp : lt (at' l i) (at' l ((i - 1) / 2)) = false := h.ok i hi0 (by omega) (by omega)
    rw [sw ((i - 1) / 2), if_neg (by omega), if_neg (by omega)]
    by_cases e : c = j
    · subst e
      rw [sw c, if_pos rfl]
      exact hp
    · rw [sw c, if_neg e, if_neg (by omega)]
      have := h.ok c c0 hc e
      unfold Ok at this
      rw [hpc] at this
      exact le_trans hp this
theorem Up.put {l : List D} (h : Heap l l.length 0) (x : D) : Up (l ++ [x]) l.length := by
  have ha : ∀ k, k < l.length → at' (l ++ [x]) k = at' l k := fun k hk => by simp [at', List.getD_eq_getElem?_getD, List.getElem?_append_left hk]
  refine ⟨fun k k0 hk hne => ?_, fun c c0 hc hpc _ => ?_⟩
  · have : k < l.length := by simp at hk; omega
    unfold Ok
    rw [ha k this, ha _ (by omega)]
    exact h k k0 this (Nat.zero_le _)
  · simp at hc
    omega

structure Down (l : List D) (n lo i : Nat) : Prop where
  ok : ∀ k, 0 < k → k < n → lo ≤ (k - 1) / 2 → (k - 1) / 2 ≠ i → Ok l k
  kid : ∀ c, 0 < c → c < n → (c - 1) / 2 = i → 0 < i → lo ≤ (i - 1) / 2 → lt (at' l c) (at' l ((i - 1) / 2)) = false
  low : lo ≤ i
theorem Down.start {l : List D} {n i : Nat} (h : Heap l n (i + 1)) : Down l n i i :=
  ⟨fun k k0 hk hp hne => h k k0 hk (by omega), fun c c0 hc hpc hi hlo => by omega, Nat.le_refl _⟩
theorem Down.stop {l : List D} {n lo i : Nat} (h : Down l n lo i) (hk : ∀ k, k < n → 0 < k → (k - 1) / 2 = i → lt (at' l k) (at' l i) = false) : Heap l n lo := by
  intro k k0 hkn hlo
  by_cases e : (k - 1) / 2 = i
  · unfold Ok
    rw [e]
    exact hk k hkn k0 e
  · exact h.ok k k0 hkn hlo e
theorem Down.step {l : List D} {n lo i j : Nat} (h : Down l n lo i) (hn : n ≤ l.length) (hj : j < n) (h0 : 0 < j) (hp : (j - 1) / 2 = i) (hl : lt (at' l j) (at' l i) = true) (hmin : ∀ k, 0 < k → k < n → (k - 1) / 2 = i → lt (at' l k) (at' l j) = false) : Down (swap l i j) n lo j := by
  have sw := fun k => at_swap l i j k (by omega) (by omega)
  have hlow := h.low
  refine ⟨fun k k0 hk hlo hne => ?_, fun c c0 hc hpc _ hlo => ?_, by omega⟩
  · unfold Ok
    rw [sw ((k - 1) / 2), if_neg hne]
    by_cases e1 : k = j
    · subst e1
      rw [sw k, if_pos rfl, if_pos hp]
      exact lt_asymm hl
    · rw [sw k, if_neg e1]
      by_cases e2 : k = i
      · subst e2
        rw [if_pos rfl, if_neg (by omega)]
        exact h.kid j h0 hj hp k0 hlo
      · rw [if_neg e2]
        by_cases e3 : (k - 1) / 2 = i
        · rw [if_pos e3]
          exact hmin k k0 hk e3
        · rw [if_neg e3]
          exact h.ok k k0 hk hlo e3
  · rw [hp, sw c, sw i, if_neg (by omega), if_neg (by omega), if_neg (by omega), if_pos rfl]
    have := h.ok c c0 hc (by omega) (by omega)
    unfold Ok at this
    rwa [hpc] at this

/-- The first of a heap comes ahead of none of the others. -/
theorem Heap.first {l : List D} (h : Heap l l.length 0) : ∀ k, k < l.length → lt (at' l k) (at' l 0) = false := by
  intro k
  induction k using Nat.strongRecOn with
  | _ k ih =>
    intro hk
    by_cases e : k = 0
    · subst e
      exact lt_irrefl _
    · have h1 := h k (by omega) hk (Nat.zero_le _)
      exact le_trans (ih ((k - 1) / 2) (by omega) (by omega)) h1
theorem Heap.first_mem {l : List D} (h : Heap l l.length 0) (x : D) (hx : x ∈ l) : lt x (at' l 0) = false := by
  obtain ⟨k, hk, rfl⟩ := List.getElem_of_mem hx
  have := h.first k hk
  rwa [at_get hk] at this

/-- Sorted lists. -/
def Sorted (s : List D) : Prop := s.Pairwise fun a b => lt b a = false
def ins (x : D) : List D → List D
  | [] => [x]
  | y :: t => if lt y x = true then y :: ins x t else x :: y :: t
theorem ins_perm (x : D) (s : List D) : (ins x s).Perm (x :: s) := by
  induction s with
  | nil => exact List.Perm.refl _
  | cons y t ih =>
    unfold ins
    split
    · exact (ih.cons y).trans (List.Perm.swap x y t)
    · exact List.Perm.refl _
theorem ins_sorted (x : D) (s : List D) (h : Sorted s) : Sorted (ins x s) := by
  induction s with
  | nil => simp [ins, Sorted]
  | cons y t ih =>
    obtain ⟨h1, h2⟩ := List.pairwise_cons.1 h
    unfold ins
    split
    · rename_i hl
      refine List.pairwise_cons.2 ⟨fun z hz => ?_, ih h2⟩
      rcases List.mem_cons.1 ((ins_perm x t).mem_iff.1 hz) with rfl | hz
      · exact lt_asymm hl
      · exact h1 z hz
    · rename_i hl
      have hl' : lt y x = false := by simpa using hl
      refine List.pairwise_cons.2 ⟨fun z hz => ?_, h⟩
      rcases List.mem_cons.1 hz with rfl | hz
      · exact hl'
      · exact le_trans hl' (h1 z hz)
theorem sorted_eq {s t : List D} (hs : Sorted s) (ht : Sorted t) (h : s.Perm t) : s = t := by
  induction s generalizing t with
  | nil => exact (List.nil_perm.1 h).symm
  | cons a r ih =>
    cases t with
    | nil => exact absurd (List.perm_nil.1 h) (by simp)
    | cons b q =>
      obtain ⟨h1, h2⟩ := List.pairwise_cons.1 hs
      obtain ⟨k1, k2⟩ := List.pairwise_cons.1 ht
      have e : a = b := by
        have ha : a ∈ b :: q := h.mem_iff.1 (by simp)
        have hb : b ∈ a :: r := h.mem_iff.2 (by simp)
        rcases List.mem_cons.1 ha with e | ha
        · exact e
        · rcases List.mem_cons.1 hb with e | hb
          · exact e.symm
          · exact le_antisymm (h1 b hb) (k1 a ha)
      subst e
      rw [ih h2 k2 (h.cons_inv)]
/-- What a heap holds: a sorted list. -/
structure Holds (h s : List D) : Prop where
  heap : Heap h h.length 0
  sorted : Sorted s
  perm : h.Perm s
theorem Holds.first {h s : List D} {m : D} (k : Holds h (m :: s)) : at' h 0 = m ∧ 0 < h.length := by
  have hl : 0 < h.length := by have := k.perm.length_eq; simp at this; omega
  refine ⟨le_antisymm ?_ ?_, hl⟩
  · have hm : m ∈ h := k.perm.mem_iff.2 (by simp)
    exact k.heap.first_mem m hm
  · have h0 : at' h 0 ∈ m :: s := k.perm.mem_iff.1 (at_mem hl)
    rcases List.mem_cons.1 h0 with e | h0
    · rw [e]; exact lt_irrefl _
    · exact (List.pairwise_cons.1 k.sorted).1 _ h0
/-- Ahead of the sifting: the last one stands first. -/
theorem Holds.swapped {h s : List D} {m : D} (k : Holds h (m :: s)) : Heap (swap h 0 (h.length - 1)) (h.length - 1) 1 := by
  have hl := k.first.2
  intro c c0 hc hp
  unfold Ok
  rw [at_swap _ _ _ _ hl (by omega), at_swap _ _ _ _ hl (by omega), if_neg (by omega), if_neg (by omega), if_neg (by omega), if_neg (by omega)]
  exact k.heap c c0 (by omega) (Nat.zero_le _)
theorem Holds.popped {h s l : List D} {m : D} (k : Holds h (m :: s)) (hp : l.Perm (swap h 0 (h.length - 1))) (hh : Heap l (h.length - 1) 0) (hlast : at' l (h.length - 1) = at' (swap h 0 (h.length - 1)) (h.length - 1)) :
    at' l (h.length - 1) = m ∧ Holds (l.take (h.length - 1)) s := by
  obtain ⟨e0, hl⟩ := k.first
  have hlen : l.length = h.length := by rw [hp.length_eq, swap_length]
  have em : at' l (h.length - 1) = m := by rw [hlast, at_swap _ _ _ _ hl (by omega), if_pos rfl, e0]
  refine ⟨em, ⟨fun c c0 hc _ => ?_, (List.pairwise_cons.1 k.sorted).2, ?_⟩⟩
  · have hc' : c < h.length - 1 := by simp at hc; omega
    have ha : ∀ q, q < h.length - 1 → at' (l.take (h.length - 1)) q = at' l q := fun q hq => by simp [at', List.getD_eq_getElem?_getD, hq]
    unfold Ok
    rw [ha c hc', ha _ (by omega)]
    exact hh c c0 hc' (Nat.zero_le _)
  · have e1 : l = l.take (h.length - 1) ++ [m] := by
      have hd : l.drop (h.length - 1) = [m] := by
        rw [← em, at_get (by omega)]
        rw [List.drop_eq_getElem_cons (by omega)]
        rw [List.drop_of_length_le (by omega)]
      rw [← hd, List.take_append_drop]
    have e2 : (l.take (h.length - 1) ++ [m]).Perm (m :: s) := by
      rw [← e1]
      exact (hp.trans (swap_perm _ _ _ hl (by omega))).trans k.perm
    have e3 : (m :: l.take (h.length - 1)).Perm (m :: s) := (List.perm_append_comm (l₁ := [m])).trans e2
    exact e3.cons_inv
theorem Holds.put {h s l : List D} {x : D} (k : Holds h s) (hp : l.Perm (h ++ [x])) (hh : Heap l l.length 0) : Holds l (ins x s) :=
  ⟨hh, ins_sorted x s k.sorted, hp.trans ((List.perm_append_comm.trans (k.perm.cons x)).trans (ins_perm x s).symm)⟩
theorem Holds.drop {h s l : List D} (k : Holds h s) (p : D → Bool) (hp : l.Perm (h.filter p)) (hh : Heap l l.length 0) : Holds l (s.filter p) :=
  ⟨hh, k.sorted.sublist List.filter_sublist, hp.trans (k.perm.filter p)⟩
theorem Holds.nil : Holds [] [] := ⟨fun k _ hk _ => by simp at hk, List.Pairwise.nil, List.Perm.refl _⟩
theorem Holds.length {h s : List D} (k : Holds h s) : h.length = s.length := k.perm.length_eq
end Go.Proofs.Ytghgjjpddemjkaa.Due
