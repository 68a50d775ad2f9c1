/- Any bytes are opened to the block, or have the error, and are of the class, that the reference says: the law over numbers and lists. At most 600 bytes, as the statement itself bounds them. -/
import Derived.Test.YtnpkndbhchmedaaPy1
import Derived.Test.YtnpkndbhchmedaaPureRefOpen
namespace Go.Proofs.Ytnpkndbhchmedaa.Pure
set_option linter.unusedVariables false
open Go.RowKit Go.Proofs.Ytnpkndbhchmedaa.Pa Go.Proofs.Ytnpkndbhchmedaa.Pb Go.Proofs.Ytnpkndbhchmedaa.Py Go.Proofs.Ytnpkndbhchmedaa.Ext Go.Proofs.YtnpkndbhchmedaaW.PrintWords Go.Proofs.YtnpkndbhchmedaaW.PrintLast

theorem refclass_f {k : Nat} {s : List Int} {a0 a1 a2 a3 a4 : Int} {l : List Int} (hk : 4200 < k) (ho : okB s = true) (hs : s.length ≤ 1000) : quartermasterref07_Class.f k s a0 a1 a2 a3 a4 l = some (classS (openS s) a0 a1 a2 a3 a4) := by
  obtain ⟨k, rfl⟩ : ∃ m, k = m + 1 := ⟨k - 1, by omega⟩
  unfold quartermasterref07_Class.f classS
  rw [refopen_f (by omega) ho hs]
  simp only [Option.bind_some]
  generalize openS s = b
  by_cases h : b.2.2.2.2.2.2 = 0
  · rw [if_pos h, if_pos h]
    by_cases h1 : b.2.1 = a1
    · rw [if_pos h1]
      by_cases h2 : b.2.2.1 = a2
      · have e : (b.2.2.1 != a2) = false := by simpa using h2
        rw [e, if_pos ⟨h1, h2⟩]
        simp only [quartermasterref07_Class.j0, Bool.false_eq_true, if_false]
        by_cases h3 : b.1 = a0
        · rw [if_pos h3]
          by_cases h4 : b.2.2.2.1 = a3
          · rw [if_pos h4]
            by_cases h5 : b.2.2.2.2.1 = a4
            · rw [if_pos h5, if_pos ⟨h3, h4, h5⟩]
            · rw [if_neg h5, if_neg (fun hh => h5 hh.2.2)]
          · rw [if_neg h4, if_neg (fun hh => h4 hh.2.1)]
        · rw [if_neg h3, if_neg (fun hh => h3 hh.1)]
      · have e : (b.2.2.1 != a2) = true := by simpa using h2
        rw [e, if_neg (fun hh => h2 hh.2)]
        simp only [quartermasterref07_Class.j0, if_true]
    · rw [if_neg h1, if_neg (fun hh => h1 hh.1)]
      simp only [quartermasterref07_Class.j0, if_true]
  · rw [if_neg h, if_neg h]
theorem refsame_own {k : Nat} {a0 a1 a2 a3 a4 : Int} {l : List Int} (hl : l.length ≤ 3000) (hk : 3000 < k) : quartermasterref07_Same.f k a0 a1 a2 a3 a4 l a0 a1 a2 a3 a4 l = some true := by
  unfold quartermasterref07_Same.f
  rw [same_f (by omega) (by omega)]
  simp
theorem openS_body {s : List Int} (hs : s.length ≤ 1000) : (openS s).2.2.2.2.2.1.length ≤ 1000 := by
  unfold openS
  split
  · split
    · show (bodyOf s).length ≤ 1000
      unfold bodyOf
      rw [List.length_drop, List.length_take]
      omega
    · exact Nat.zero_le _
  · exact Nat.zero_le _
theorem BlockOpens : quartermasterlaw07_BlockOpens.Pure := by
  intro s a0 a1 a2 a3 a4 l hl hw _ _ _ _ _ _ _
  have ho := okB_wf hw
  obtain ⟨k, hk⟩ : ∃ k : Nat, 5000 ≤ k := ⟨5000, Nat.le_refl _⟩
  refine ⟨k + 1, ?_⟩
  unfold quartermasterlaw07_BlockOpens.f quartermasterlaw07_awake.f
  simp only [Option.bind_some, if_true]
  by_cases h1 : (s.length : Int) > 600
  · rw [decide_eq_true h1]; simp only [quartermasterlaw07_BlockOpens.j0, if_true]
  · rw [decide_eq_false h1]
    have hs : s.length ≤ 1000 := by omega
    simp only [quartermasterlaw07_BlockOpens.j0, Bool.false_eq_true, if_false]
    rw [open_f (by omega) ho hs, refopen_f (by omega) ho hs]
    simp only [Option.bind_some]
    rw [refsame_own (by have := openS_body hs; omega) (by omega), class_f (by omega) ho hs, refclass_f (by omega) ho hs]
    simp
end Go.Proofs.Ytnpkndbhchmedaa.Pure
