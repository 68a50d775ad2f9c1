/- What the document's functions of the queue come to: plain. No conditions beside those that each lemma states. -/
import Derived.Test.YtghgjjpddemjkaaPa1
import Derived.Test.YtghgjjpddemjkaaDueGot
namespace Go.Proofs.Ytghgjjpddemjkaa.Due
open Go.RowKit Go.Proofs.Ytghgjjpddemjkaa.Pa Go.Proofs.YtghgjjpddemjkaaW.PrintWords Go.Proofs.YtghgjjpddemjkaaW.PrintLast Go.Proofs.YtghgjjpddemjkaaW.PrintMore
set_option linter.unusedVariables false

theorem wrap_succ {k : Nat} (h : k < 4611686018427387904) : wrap64 ((k : Int) + 1) = ((k + 1 : Nat) : Int) := by unfold wrap64; omega
/-- Where a least one stands. -/
def Least (l : List D) (r : Int) : Prop := (l = [] ∧ r = -1) ∨ ∃ n : Nat, n < l.length ∧ r = n ∧ ∀ j, j < l.length → lt (at' l j) (at' l n) = false
theorem first_l (xs : List D) (hl : xs.length < 4611686018427387904) : ∀ (d k i : Nat) (b : Int), i + d = xs.length → d < k →
    ((i = 0 ∧ b = -1) ∨ ∃ n : Nat, n < i ∧ b = n ∧ ∀ j, j < i → lt (at' xs j) (at' xs n) = false) → ∃ r, quartermasterref15_First.l0 k xs b i = some r ∧ Least xs r := by
  intro d
  induction d with
  | zero =>
    intro k i b hi hk hb
    obtain ⟨k, rfl⟩ : ∃ m, k = m + 1 := ⟨k - 1, by omega⟩
    simp only [quartermasterref15_First.l0]
    rw [if_neg (by omega)]
    refine ⟨b, rfl, ?_⟩
    rcases hb with ⟨h0, rfl⟩ | ⟨n, hn, rfl, hj⟩
    · exact .inl ⟨List.eq_nil_of_length_eq_zero (by omega), rfl⟩
    · exact .inr ⟨n, by omega, rfl, fun j h => hj j (by omega)⟩
  | succ d ih =>
    intro k i b hi hk hb
    obtain ⟨k, rfl⟩ : ∃ m, k = m + 1 := ⟨k - 1, by omega⟩
    simp only [quartermasterref15_First.l0]
    rw [if_pos (by omega), wrap_succ (by omega)]
    rcases hb with ⟨h0, rfl⟩ | ⟨n, hn, rfl, hj⟩
    · rw [if_pos (by omega)]
      refine ih k (i + 1) i (by omega) (by omega) (.inr ⟨i, by omega, rfl, fun j h => ?_⟩)
      obtain rfl : j = i := by omega
      exact lt_irrefl _
    · rw [if_neg (by omega), if_pos (by omega), if_pos (by omega), if_pos (by omega), rd_at, rd_at]
      have keep : lt (at' xs i) (at' xs n) = false → ∀ j, j < i + 1 → lt (at' xs j) (at' xs n) = false := by
        intro h j hj'
        rcases Nat.lt_or_ge j i with h2 | h2
        · exact hj j h2
        · obtain rfl : j = i := by omega
          exact h
      have move : lt (at' xs i) (at' xs n) = true → ∀ j, j < i + 1 → lt (at' xs j) (at' xs i) = false := by
        intro h j hj'
        rcases Nat.lt_or_ge j i with h2 | h2
        · exact le_trans (lt_asymm h) (hj j h2)
        · obtain rfl : j = i := by omega
          exact lt_irrefl _
      by_cases c1 : (at' xs i).f0 < (at' xs n).f0
      · rw [if_pos c1]
        exact ih k (i + 1) i (by omega) (by omega) (.inr ⟨i, by omega, rfl, move ((lt_iff _ _).2 (.inl c1))⟩)
      · rw [if_neg c1]
        by_cases c2 : (at' xs i).f0 = (at' xs n).f0
        · rw [if_pos c2]
          by_cases c3 : (at' xs i).f1 < (at' xs n).f1
          · rw [if_pos c3]
            exact ih k (i + 1) i (by omega) (by omega) (.inr ⟨i, by omega, rfl, move ((lt_iff _ _).2 (.inr ⟨c2, c3⟩))⟩)
          · rw [if_neg c3]
            exact ih k (i + 1) n (by omega) (by omega) (.inr ⟨n, by omega, rfl, keep ((lt_false _ _).2 (by omega))⟩)
        · rw [if_neg c2]
          exact ih k (i + 1) n (by omega) (by omega) (.inr ⟨n, by omega, rfl, keep ((lt_false _ _).2 (by omega))⟩)
theorem first_f (xs : List D) (hl : xs.length < 4611686018427387904) : ∃ r, quartermasterref15_First.f (xs.length + 1) xs = some r ∧ Least xs r := by
  unfold quartermasterref15_First.f
  exact first_l xs hl xs.length (xs.length + 1) 0 (-1) (by omega) (by omega) (.inl ⟨rfl, rfl⟩)
theorem drop_l (xs : List D) (id : Int) (hl : xs.length < 8796093022208) : ∀ (d k i : Nat) (o : List D), i + d = xs.length → d < k → o = (xs.take i).filter (fun d => !hit id d) →
    quartermasterref15_Drop.l0 k xs id o i = some (xs.filter (fun d => !hit id d)) := by
  intro d
  induction d with
  | zero =>
    intro k i o hi hk ho
    obtain ⟨k, rfl⟩ : ∃ m, k = m + 1 := ⟨k - 1, by omega⟩
    simp only [quartermasterref15_Drop.l0]
    rw [if_neg (by omega), ho, List.take_of_length_le (by omega)]
  | succ d ih =>
    intro k i o hi hk ho
    obtain ⟨k, rfl⟩ : ∃ m, k = m + 1 := ⟨k - 1, by omega⟩
    have hf := filter_next (p := hit id) (h := xs) (j := i) (by omega)
    simp only [quartermasterref15_Drop.l0]
    rw [if_pos (by omega), if_pos (by omega), wrap_succ (by omega), rd_at]
    have hol : o.length ≤ i := by rw [ho]; refine Nat.le_trans (List.length_filter_le _ _) ?_; simp; omega
    by_cases c : (at' xs i).f1 = id
    · rw [if_pos c]
      have hh : hit id (at' xs i) = true := beq_iff_eq.2 c
      refine ih k (i + 1) o (by omega) (by omega) ?_
      rw [hf, if_pos hh, List.append_nil]
      exact ho
    · rw [if_neg c, if_pos (by omega)]
      have hh : ¬ hit id (at' xs i) = true := fun e => c (beq_iff_eq.1 e)
      refine ih k (i + 1) _ (by omega) (by omega) ?_
      rw [hf, if_neg hh, ho]
theorem drop_f (xs : List D) (id : Int) (hl : xs.length < 8796093022208) : quartermasterref15_Drop.f (xs.length + 1) xs id = some (xs.filter (fun d => !hit id d)) := by
  unfold quartermasterref15_Drop.f
  exact drop_l xs id hl xs.length (xs.length + 1) 0 [] (by omega) (by omega) (by simp)
theorem without_f (xs : List D) (n : Nat) (hn : n < xs.length) (hl : xs.length < 4611686018427387904) (hl2 : xs.length < 8796093022208) : quartermasterref15_Without.f xs (n : Int) = some (xs.take n ++ xs.drop (n + 1)) := by
  unfold quartermasterref15_Without.f
  rw [wrap_succ (by omega)]
  simp only [Option.bind_some, Int.toNat_natCast, List.nil_append, List.length_nil, Nat.zero_add]
  rw [if_pos (by omega), if_pos (by omega), if_pos (by simp; omega), if_pos (by omega), if_pos (by omega), if_pos (by simp; omega)]
/-- The least one is the first of the sorted ones. -/
theorem least_hd {r s : List D} (hs : Sorted s) (hp : r.Perm s) {i : Int} (h : Least r i) : (s = [] ∧ r = [] ∧ i = -1) ∨ ∃ (n : Nat) (m : D) (t : List D), n < r.length ∧ i = n ∧ s = m :: t ∧ at' r n = m ∧ (r.take n ++ r.drop (n + 1)).Perm t := by
  rcases h with ⟨rfl, rfl⟩ | ⟨n, hn, rfl, hj⟩
  · exact .inl ⟨List.nil_perm.1 hp, rfl, rfl⟩
  · refine .inr ⟨n, ?_⟩
    have hr : r = r.take n ++ (at' r n :: r.drop (n + 1)) := by rw [← drop_at hn, List.take_append_drop]
    cases s with
    | nil =>
      have h0 := List.perm_nil.1 hp
      subst h0
      simp at hn
    | cons m t =>
      obtain ⟨h1, h2⟩ := List.pairwise_cons.1 hs
      have hm : m ∈ r := hp.mem_iff.2 (by simp)
      obtain ⟨j, hjl, e⟩ := List.getElem_of_mem hm
      have a1 : lt m (at' r n) = false := by have := hj j hjl; rwa [at_get hjl, e] at this
      have a2 : lt (at' r n) m = false := by
        have : at' r n ∈ m :: t := hp.mem_iff.1 (at_mem hn)
        rcases List.mem_cons.1 this with e | e
        · rw [e]; exact lt_irrefl _
        · exact h1 _ e
      have e : at' r n = m := le_antisymm a1 a2
      refine ⟨m, t, hn, rfl, rfl, e, ?_⟩
      have h3 : r.Perm (m :: (r.take n ++ r.drop (n + 1))) := by
        conv => lhs; rw [hr]
        rw [e]
        exact List.perm_middle
      exact (h3.symm.trans hp).cons_inv
end Go.Proofs.Ytghgjjpddemjkaa.Due
