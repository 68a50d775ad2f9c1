/- What was sealed is opened as it was: the law over numbers and lists. At most 2000 bytes, as the statement itself bounds them. -/
import Derived.Test.YtnpkndbhchmedaaPx2
import Derived.Test.YtnpkndbhchmedaaExtAwake
namespace Go.Proofs.Ytnpkndbhchmedaa.Pure
open Go.RowKit Go.Proofs.Ytnpkndbhchmedaa.Pa Go.Proofs.Ytnpkndbhchmedaa.Pb Go.Proofs.Ytnpkndbhchmedaa.Px Go.Proofs.Ytnpkndbhchmedaa.Ext Go.Proofs.YtnpkndbhchmedaaW.PrintWords Go.Proofs.YtnpkndbhchmedaaW.PrintLast

theorem refsame_f {k : Nat} {a0 a1 a2 a3 a4 : Int} {l : List Int} (hl : l.length ≤ 3000) (hk : 3000 < k) : quartermasterref07_Same.f k a0 a1 a2 a3 a4 l a0 a1 a2 a3 a4 l = some true := by
  unfold quartermasterref07_Same.f
  rw [same_f (by omega) (by omega)]
  simp
theorem BlockBack : quartermasterlaw07_BlockBack.Pure := by
  intro a0 a1 a2 a3 a4 l _ _ _ _ _ hl hw
  have ho := okB_wf hw
  obtain ⟨k, hk⟩ : ∃ k : Nat, 5000 ≤ k := ⟨5000, Nat.le_refl _⟩
  refine ⟨k + 1, ?_⟩
  unfold quartermasterlaw07_BlockBack.f quartermasterlaw07_awake.f
  simp only [Option.bind_some, if_true]
  by_cases h1 : (l.length : Int) > 2000
  · rw [decide_eq_true h1]; simp only [quartermasterlaw07_BlockBack.j0, if_true]
  · rw [decide_eq_false h1]
    simp only [quartermasterlaw07_BlockBack.j0, Bool.false_eq_true, if_false]
    rw [seal_blk (by omega) ho, may_f (by omega)]
    simp only [Option.bind_some]
    by_cases hn : numS a0 a1 a2 a3 a4 = true
    · by_cases h2 : l.length ≤ 228
      · have e : sealS a0 a1 a2 a3 a4 l = (sealT a0 a1 a2 a3 a4 l, 0) := by rw [sealS_ok h2, if_pos hn]
        rw [e, hn, decide_eq_true (show (l.length : Int) ≤ 228 by omega)]
        simp only [Bool.and_true, if_true]
        have hT := sealT_length (a0 := a0) (a1 := a1) (a2 := a2) (a3 := a3) (a4 := a4) h2
        rw [open_f (by omega) (okB_sealT ho) (by omega), open_seal hn h2]
        simp only [Option.bind_some]
        rw [refsame_f (by omega) (by omega), class_f (by omega) (okB_sealT ho) (by omega), open_seal hn h2]
        simp only [Option.bind_some, if_true]
        rw [if_pos (by omega)]
        simp [classS]
      · have e : sealS a0 a1 a2 a3 a4 l = ([], 2) := by unfold sealS; rw [if_pos hn, if_pos (by omega)]
        rw [e, decide_eq_false (show ¬ (l.length : Int) ≤ 228 by omega), Bool.and_false]
        rfl
    · have e : sealS a0 a1 a2 a3 a4 l = ([], 1) := by unfold sealS; rw [if_neg hn]
      have hn' : numS a0 a1 a2 a3 a4 = false := by simpa using hn
      rw [e, hn', Bool.false_and]
      rfl
end Go.Proofs.Ytnpkndbhchmedaa.Pure
