/- A trail is its pages, one behind the other: the law over numbers and lists. At most 100 entries, as the statement itself bounds them. -/
import Derived.Test.YthgganjnodoldaaPx2
import Derived.Test.YthgganjnodoldaaPureTrail
namespace Go.Proofs.Ythgganjnodoldaa.Pure
open Go.RowKit Go.Proofs.Ythgganjnodoldaa.Pa Go.Proofs.Ythgganjnodoldaa.Ext Go.Proofs.Ythgganjnodoldaa.Px Go.Proofs.YthgganjnodoldaaW.PrintWords Go.Proofs.YthgganjnodoldaaW.PrintLast


theorem pages_l {l : List S35} {b : Int} (hm : mayS l = true) (hb : 1 ≤ b) (d : Nat) : ∀ (k i j : Nat), j + d = l.length → i ≤ j → l.length + 200 < k + i → i ≤ 99 →
    quartermasterlaw19_TrailPages.l0 k l b (l.take j) i = some true := by
  obtain ⟨h64, _⟩ := okE_all hm
  induction d using Nat.strongRecOn with
  | _ d ih =>
    intro k i j hj hij hk hi
    obtain ⟨k, rfl⟩ : ∃ m, k = m + 1 := ⟨k - 1, by omega⟩
    have ew : wrap64 ((i : Int) + 1) = ((i + 1 : Nat) : Int) := by unfold wrap64; omega
    have hlt : (l.take j).length = j := by simp; omega
    simp only [quartermasterlaw19_TrailPages.l0]
    rw [if_pos (by omega), page_f (by omega), hlt, ew]
    clear ew
    simp only [Option.bind_some]
    by_cases hd : j < l.length
    · rw [if_pos (show mayS l = true ∧ 0 ≤ (j : Int) ∧ (j : Int) < (l.length : Int) ∧ 0 < b from ⟨hm, by omega, by omega, by omega⟩), Int.toNat_natCast]
      have hlen : ((l.drop j).take b.toNat).length = min b.toNat (l.length - j) := by simp
      rw [if_neg (by omega), if_neg (by omega), if_pos (by omega)]
      have ht : l.take j ++ (l.drop j).take b.toNat = l.take (j + min b.toNat (l.length - j)) := by
        rw [List.take_add]
        congr 1
        rcases Nat.le_total b.toNat (l.length - j) with h | h
        · rw [Nat.min_eq_left h]
        · rw [Nat.min_eq_right h, List.take_of_length_le (by simp; omega), List.take_of_length_le (by simp)]
      rw [ht]
      exact ih (d - min b.toNat (l.length - j)) (by omega) k (i + 1) _ (by omega) (by omega) (by omega) (by omega)
    · rw [if_neg (show ¬ (mayS l = true ∧ 0 ≤ (j : Int) ∧ (j : Int) < (l.length : Int) ∧ 0 < b) from fun h => by omega)]
      rw [if_neg (by simp; omega), if_pos (by simp), List.take_of_length_le (by omega), same_f (by omega) (by omega)]
      rfl
theorem TrailPages : quartermasterlaw19_TrailPages.Pure := by
  intro l b hl hql hb
  obtain ⟨k, hk⟩ : ∃ k : Nat, 5000 ≤ k := ⟨5000, Nat.le_refl _⟩
  refine ⟨k + 1, ?_⟩
  unfold quartermasterlaw19_TrailPages.f
  rw [awake_f (by omega)]
  simp only [Option.bind_some, if_true]
  have J1 : quartermasterlaw19_TrailPages.j0 (k + 1) l b true true = some true := by simp only [quartermasterlaw19_TrailPages.j0, if_true]
  by_cases h1 : (l.length : Int) > 100
  · rw [if_pos h1]; exact J1
  rw [if_neg h1]
  by_cases h2 : b < 1
  · rw [if_pos h2]; exact J1
  rw [if_neg h2]
  unfold trail_May.f
  simp only [Option.bind_some]
  by_cases hm : mayS l = true
  · rw [hm]
    simp only [quartermasterlaw19_TrailPages.j0, Bool.not_true, Bool.false_eq_true, if_false]
    have := pages_l hm (show 1 ≤ b by omega) l.length k 0 0 (by omega) (by omega) (by omega) (by omega)
    rw [List.take_zero] at this
    exact this
  · have hm' : mayS l = false := by simpa using hm
    rw [hm']; exact J1

end Go.Proofs.Ythgganjnodoldaa.Pure
