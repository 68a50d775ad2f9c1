/- StockStays as a plain law. -/
import Derived.Test.YtkhghabenhhhaaaPureStock
namespace Go.Proofs.Ytkhghabenhhhaaa.Pure
open Go Go.RowKit Go.Proofs.Ytkhghabenhhhaaa.Pa Go.Proofs.Ytkhghabenhhhaaa.Px Go.Proofs.Ytkhghabenhhhaaa.Ext Go.Proofs.Ytkhghabenhhhaaa.Stock Go.Proofs.YtkhghabenhhhaaaW.PrintWords Go.Proofs.YtkhghabenhhhaaaW.PrintLast
set_option linter.unusedVariables false

theorem stays_l {l : List S37} (hm : May l) (d : Nat) : ∀ (k i : Nat), i + d = l.length → d + 100 < k → quartermasterlaw17_StockStays.l0 k l true (i : Int) = some true := by
  have hl := hm.length
  induction d with
  | zero =>
    intro k i h hk
    obtain ⟨m, rfl⟩ : ∃ m, k = m + 1 := ⟨k - 1, by omega⟩
    unfold quartermasterlaw17_StockStays.l0
    rw [if_neg (by omega), if_pos rfl, may_f (by omega) (by omega), mayB_iff.2 hm]
    rfl
  | succ d ih =>
    intro k i h hk
    obtain ⟨m, rfl⟩ : ∃ m, k = m + 1 := ⟨k - 1, by omega⟩
    unfold quartermasterlaw17_StockStays.l0
    have hw : wrap64 ((i : Int) + 1) = ((i + 1 : Nat) : Int) := wi (by omega)
    have hx := (okS_iff.1 (hm.1 _ (List.getElem_mem (show i < l.length by omega)))).2
    rw [if_pos (by omega), if_pos (by omega), rd_getElem (show i < l.length by omega), if_neg (by omega), if_neg (by omega), hw]
    exact ih m (i + 1) (by omega) (by omega)
theorem StockStays : quartermasterlaw17_StockStays.Pure := by
  intro l a0 a1 a2 a3 a4 m hn hq w0 w1 w2 w3 w4 hmn hmq
  obtain ⟨k, hk⟩ : ∃ k : Nat, k = 999 := ⟨_, rfl⟩
  refine ⟨k + 1, ?_⟩
  have hup : ∀ x29 : Bool, x29 = true → quartermasterlaw17_StockStays.j0 (k + 1) l true x29 a0 a1 a2 a3 a4 m = some true := fun x h => by
    subst h; rw [quartermasterlaw17_StockStays.j0]; rw [if_pos rfl]
  unfold quartermasterlaw17_StockStays.f
  rw [awake_f]
  simp only [Option.bind_some]
  rw [if_pos trivial]
  by_cases h1 : (l.length : Int) > 100
  · rw [if_pos h1]; exact hup _ rfl
  rw [if_neg h1]
  by_cases h2 : (m.length : Int) > 20
  · rw [if_pos h2]; exact hup _ rfl
  rw [if_neg h2, may_f (by omega) (by omega)]
  simp only [Option.bind_some]
  by_cases h3 : mayB l = true
  case neg => exact hup _ (by simpa using h3)
  have hm := mayB_iff.1 h3
  have hl : Lim l := lim_of hq (by omega)
  have hg := does_good hl a0 a1 a2 a3 a4 m
  rw [quartermasterlaw17_StockStays.j0]
  rw [if_neg (by simp [h3]), if_pos (by simp; omega), does_f hl (wfb w4) (limL_of hmq)]
  simp only [Option.bind_some, List.nil_append]
  rw [same_f (by omega) (by omega)]
  simp only [Option.bind_some]
  by_cases h4 : (doesP l a0 a1 a2 a3 a4 m).2 = 0
  · rw [if_pos h4]
    have := (hg.1 h4).length
    exact stays_l (hg.1 h4) (doesP l a0 a1 a2 a3 a4 m).1.length k 0 (by omega) (by omega)
  · rw [if_neg h4, if_pos trivial, hg.2.1 h4]; rfl
end Go.Proofs.Ytkhghabenhhhaaa.Pure
