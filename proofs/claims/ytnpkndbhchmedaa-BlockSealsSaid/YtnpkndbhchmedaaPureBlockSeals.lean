/- Any block may be, or not, and is sealed as the reference says: the law over numbers and lists. At most 2000 bytes, as the statement itself bounds them. -/
import Derived.Test.YtnpkndbhchmedaaPx1
import Derived.Test.YtnpkndbhchmedaaExtAwake
namespace Go.Proofs.Ytnpkndbhchmedaa.Pure
open Go.RowKit Go.Proofs.Ytnpkndbhchmedaa.Pa Go.Proofs.Ytnpkndbhchmedaa.Pb Go.Proofs.Ytnpkndbhchmedaa.Px Go.Proofs.Ytnpkndbhchmedaa.Ext Go.Proofs.YtnpkndbhchmedaaW.PrintWords Go.Proofs.YtnpkndbhchmedaaW.PrintLast

theorem BlockSeals : quartermasterlaw07_BlockSeals.Pure := by
  intro a0 a1 a2 a3 a4 l _ _ _ _ _ hl hw
  have ho := okB_wf hw
  obtain ⟨k, hk⟩ : ∃ k : Nat, 5000 ≤ k := ⟨5000, Nat.le_refl _⟩
  refine ⟨k + 1, ?_⟩
  unfold quartermasterlaw07_BlockSeals.f quartermasterlaw07_awake.f
  simp only [Option.bind_some, if_true]
  by_cases h1 : (l.length : Int) > 2000
  · rw [decide_eq_true h1]; simp only [quartermasterlaw07_BlockSeals.j0, if_true]
  · rw [decide_eq_false h1]
    simp only [quartermasterlaw07_BlockSeals.j0, Bool.false_eq_true, if_false]
    rw [seal_blk (by omega) ho, refseal_blk (by omega) ho, may_f (by omega), refmay_f (by omega)]
    simp only [Option.bind_some]
    have hsl : (sealS a0 a1 a2 a3 a4 l).1.length ≤ 3000 := by
      unfold sealS
      split
      · split
        · simp
        · have : l.length ≤ 228 := by omega
          show (sealT a0 a1 a2 a3 a4 l).length ≤ 3000
          rw [sealT_length this]; omega
      · simp
    rw [same_f (by omega) (by omega)]
    simp
end Go.Proofs.Ytnpkndbhchmedaa.Pure
