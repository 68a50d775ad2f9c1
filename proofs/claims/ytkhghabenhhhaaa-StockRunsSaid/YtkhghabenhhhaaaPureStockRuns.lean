/- StockRuns as a plain law. -/
import Derived.Test.YtkhghabenhhhaaaPureStockU
namespace Go.Proofs.Ytkhghabenhhhaaa.Pure
open Go Go.RowKit Go.Proofs.Ytkhghabenhhhaaa.Pa Go.Proofs.Ytkhghabenhhhaaa.Pu Go.Proofs.Ytkhghabenhhhaaa.Ext Go.Proofs.Ytkhghabenhhhaaa.Stock Go.Proofs.YtkhghabenhhhaaaW.PrintWords Go.Proofs.YtkhghabenhhhaaaW.PrintLast
set_option linter.unusedVariables false

theorem rdO {l : List S34} {i : Nat} (h : i < l.length) : rd_T34 l (i : Int) ∈ l := by
  have : rd_T34 l (i : Int) = l[i] := by simp [rd_T34, h]
  rw [this]; exact List.getElem_mem h
theorem runs_l {l : List S34} (hl : l.length ≤ 100) (hq : ∀ y ∈ l, qT34 y) (d : Nat) : ∀ (k i : Nat) (a : List S37), i + d = l.length → 2 * d + 1000 < k → Lim a → a.length ≤ 300 →
    quartermasterlaw17_StockRuns.l0 k l a a (i : Int) = some true := by
  induction d with
  | zero =>
    intro k i a h hk ha hn
    obtain ⟨k, rfl⟩ : ∃ m, k = m + 1 := ⟨k - 1, by omega⟩
    rw [quartermasterlaw17_StockRuns.l0, if_neg (by omega)]
  | succ d ih =>
    intro k i a h hk ha hn
    obtain ⟨k, rfl⟩ : ∃ m, k = m + 1 + 1 := ⟨k - 2, by omega⟩
    have hi : i < l.length := by omega
    have hw : wrap64 ((i : Int) + 1) = ((i + 1 : Nat) : Int) := wi (by omega)
    have hx := hq _ (rdO hi)
    rw [quartermasterlaw17_StockRuns.l0, if_pos (by omega), if_pos (by omega)]
    obtain ⟨x, hxx⟩ : ∃ x, x = rd_T34 l (i : Int) := ⟨_, rfl⟩
    rw [← hxx] at hx ⊢
    unfold qT34 at hx
    split
    · rfl
    · have hqq : inI x.f2.f2 := wfb hx.2.2.1.2.2
      have hmq : LimL x.f3 := limL_of hx.2.2.2
      rw [does_f ha hqq hmq, did_f ha hqq hmq]
      simp only [Option.bind_some]
      have hg := does_good ha x.f0 x.f1 x.f2.f0 x.f2.f1 x.f2.f2 x.f3
      obtain ⟨r, hr⟩ : ∃ r, r = doesP a x.f0 x.f1 x.f2.f0 x.f2.f1 x.f2.f2 x.f3 := ⟨_, rfl⟩
      rw [← hr] at hg ⊢
      have hdl : r.1.length ≤ 300 := by
        by_cases h4 : r.2 = 0
        · have := (hg.1 h4).length; omega
        · rw [hg.2.1 h4]; simp
      rw [same_f (by omega) (by omega)]
      simp only [Option.bind_some]
      rw [if_pos trivial, quartermasterlaw17_StockRuns.j2, if_neg (by simp), hw]
      split
      · exact ih k (i + 1) r.1 (by omega) (by omega) hg.2.2 hdl
      · exact ih k (i + 1) a (by omega) (by omega) ha hn
theorem StockRuns : quartermasterlaw17_StockRuns.Pure := by
  intro l hn hq
  obtain ⟨k, hk⟩ : ∃ k : Nat, k = 9999 := ⟨_, rfl⟩
  refine ⟨k + 1, ?_⟩
  unfold quartermasterlaw17_StockRuns.f
  rw [awake_f]
  simp only [Option.bind_some]
  rw [if_pos trivial, quartermasterlaw17_StockRuns.j0]
  split
  · rfl
  · rename_i h
    have h1 : l.length ≤ 100 := by
      have : ¬ (l.length : Int) > 100 := by simpa using h
      omega
    exact runs_l h1 hq l.length k 0 [] (by omega) (by omega) ⟨by simp, by simp⟩ (by simp)
end Go.Proofs.Ytkhghabenhhhaaa.Pure
