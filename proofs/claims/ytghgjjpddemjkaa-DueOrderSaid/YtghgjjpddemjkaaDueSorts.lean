/- Lists of pairs, put one by one into a sorted list. No conditions beside those that each lemma states. -/
import Derived.Test.YtghgjjpddemjkaaDuePlain
namespace Go.Proofs.Ytghgjjpddemjkaa.Due
open Go.Proofs.Ytghgjjpddemjkaa.Pa
set_option linter.unusedVariables false

def srt (l : List D) : List D := l.foldl (fun s x => ins x s) []
theorem srt_snoc (l : List D) (x : D) : srt (l ++ [x]) = ins x (srt l) := by simp [srt]
theorem fold_sorted : ∀ (l s : List D), Sorted s → Sorted (l.foldl (fun s x => ins x s) s) ∧ (l.foldl (fun s x => ins x s) s).Perm (l ++ s)
  | [], s, h => ⟨h, List.Perm.refl _⟩
  | x :: r, s, h => by
    obtain ⟨h1, h2⟩ := fold_sorted r (ins x s) (ins_sorted x s h)
    exact ⟨h1, h2.trans (((ins_perm x s).append_left r).trans List.perm_middle)⟩
theorem srt_sorted (l : List D) : Sorted (srt l) ∧ (srt l).Perm l := by
  have := fold_sorted l [] List.Pairwise.nil
  rwa [List.append_nil] at this
theorem srt_length (l : List D) : (srt l).length = l.length := (srt_sorted l).2.length_eq
theorem take_snoc {l : List D} {k : Nat} (h : k < l.length) : l.take (k + 1) = l.take k ++ [at' l k] := by rw [at_get h]; exact List.take_succ_eq_append_getElem h
theorem srt_take {l : List D} {k : Nat} (h : k < l.length) : srt (l.take (k + 1)) = ins (at' l k) (srt (l.take k)) := by rw [take_snoc h, srt_snoc]
theorem drop_at {s : List D} {k : Nat} (h : k < s.length) : s.drop k = at' s k :: s.drop (k + 1) := by rw [at_get h]; exact List.drop_eq_getElem_cons h
theorem sorted_le {s : List D} (hs : Sorted s) {i j : Nat} (hij : i < j) (hj : j < s.length) : lt (at' s j) (at' s i) = false := by
  have := List.pairwise_iff_getElem.1 hs i j (by omega) hj hij
  rw [at_get hj, at_get (by omega)]
  exact this
/-- Has its time come? -/
def come (now : Int) (d : D) : Bool := decide (d.f0 ≤ now)
theorem come_prefix (now : Int) : ∀ {s : List D}, Sorted s → ∀ k, k < s.length → (come now (at' s k) = true ↔ k < s.countP (come now))
  | [], _, k, hk => absurd hk (by simp)
  | a :: r, hs, k, hk => by
    obtain ⟨h1, h2⟩ := List.pairwise_cons.1 hs
    cases ha : come now a with
    | true =>
      rw [List.countP_cons_of_pos ha]
      cases k with
      | zero => simpa [at'] using ha
      | succ k =>
        have := come_prefix now h2 k (by simpa using hk)
        have e : at' (a :: r) (k + 1) = at' r k := by simp [at']
        rw [e, this]
        omega
    | false =>
      have hall : ∀ x ∈ a :: r, come now x = false := by
        intro x hx
        rcases List.mem_cons.1 hx with rfl | hx
        · exact ha
        · have := h1 x hx
          rw [lt_false] at this
          have ha' : ¬ a.f0 ≤ now := by simpa [come] using ha
          have : ¬ x.f0 ≤ now := by omega
          simpa [come] using this
      have h0 : (a :: r).countP (come now) = 0 := by
        rw [List.countP_eq_zero]
        intro x hx
        rw [hall x hx]
        decide
      rw [h0, hall _ (at_mem hk)]
      simp
theorem come_snoc (now : Int) {l : List D} {k : Nat} (h : k < l.length) : (l.take (k + 1)).countP (come now) = (l.take k).countP (come now) + if come now (at' l k) = true then 1 else 0 := by
  rw [take_snoc h, List.countP_append]
  cases hc : come now (at' l k) <;> simp [hc]
end Go.Proofs.Ytghgjjpddemjkaa.Due
