/- What is sealed stays, and what it is sealed to is its own: the law over numbers and lists. At most 600 bytes, as the statement itself bounds them. -/
import Derived.Test.YtdkijmlfffnilaaPx2
import Derived.Test.YtdkijmlfffnilaaPureWhole
namespace Go.Proofs.Ytdkijmlfffnilaa.Pure
open Go.RowKit Go.Proofs.Ytdkijmlfffnilaa.Px Go.Proofs.Ytdkijmlfffnilaa.Ext Go.Proofs.YtdkijmlfffnilaaW.PrintWords Go.Proofs.YtdkijmlfffnilaaW.PrintLast

theorem own_l (a : List Int) (ha : a.length ≤ 4000) (d : Nat) : ∀ (k i : Nat) (s : List Int), i + d = s.length → s.length ≤ 5000 → d + a.length + 1 < k →
    quartermasterlaw04_CrcOwn.l0 k a a s i = some true := by
  induction d with
  | zero =>
    intro k i s h hs hk
    obtain ⟨k, rfl⟩ : ∃ m, k = m + 1 := ⟨k - 1, by omega⟩
    simp only [quartermasterlaw04_CrcOwn.l0]
    rw [if_neg (by omega), same_f (by omega) (by omega)]
    simp
  | succ d ih =>
    intro k i s h hs hk
    obtain ⟨k, rfl⟩ : ∃ m, k = m + 1 := ⟨k - 1, by omega⟩
    simp only [quartermasterlaw04_CrcOwn.l0]
    have e6 : wrap64 ((i : Int) + 1) = ((i + 1 : Nat) : Int) := by unfold wrap64; omega
    rw [if_pos (by omega), if_pos (by omega), e6]
    clear e6
    exact ih k (i + 1) _ (by simp; omega) (by simp; omega) (by omega)

theorem CrcOwn : quartermasterlaw04_CrcOwn.Pure := by
  intro a _ ha8 hwa
  have hoa := okB_wf hwa
  obtain ⟨k, hk⟩ : ∃ k : Nat, 3000 ≤ k := ⟨3000, Nat.le_refl _⟩
  refine ⟨k + 1, ?_⟩
  unfold quartermasterlaw04_CrcOwn.f quartermasterlaw04_awake.f
  simp only [Option.bind_some, if_true]
  by_cases h : (a.length : Int) > 600
  · rw [decide_eq_true h]; simp only [quartermasterlaw04_CrcOwn.j0, if_true]
  rw [decide_eq_false h]
  simp only [quartermasterlaw04_CrcOwn.j0, Bool.false_eq_true, if_false]
  rw [if_pos (by simp; omega)]
  simp only [Option.bind_some, List.nil_append]
  rw [seal_f hoa (by omega)]
  simp only [Option.bind_some]
  exact own_l a (by omega) (a ++ le4 (moreS 0 a)).length _ 0 _ (by omega) (by simp [le4]; omega) (by simp [le4]; omega)

end Go.Proofs.Ytdkijmlfffnilaa.Pure
