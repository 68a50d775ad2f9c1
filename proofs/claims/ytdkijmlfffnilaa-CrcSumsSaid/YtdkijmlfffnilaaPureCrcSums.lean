/- Any bytes have the sum, and are sealed, and whole or not, as the document says: the law over numbers and lists. At most 2000 bytes, as the statement itself bounds them. -/
import Derived.Test.YtdkijmlfffnilaaPureWhole
namespace Go.Proofs.Ytdkijmlfffnilaa.Pure
open Go.RowKit Go.Proofs.Ytdkijmlfffnilaa.Px Go.Proofs.Ytdkijmlfffnilaa.Ext Go.Proofs.YtdkijmlfffnilaaW.PrintWords Go.Proofs.YtdkijmlfffnilaaW.PrintLast

theorem CrcSums : quartermasterlaw04_CrcSums.Pure := by
  intro l _ h8 hw
  have ho := okB_wf hw
  refine ⟨30000, ?_⟩
  unfold quartermasterlaw04_CrcSums.f quartermasterlaw04_awake.f
  simp only [Option.bind_some, if_true]
  by_cases h : (l.length : Int) > 2000
  · rw [decide_eq_true h]; simp [quartermasterlaw04_CrcSums.j0]
  · rw [decide_eq_false h]
    simp only [quartermasterlaw04_CrcSums.j0, Bool.false_eq_true, if_false]
    rw [seal_f ho (by omega)]
    simp only [Option.bind_some]
    rw [refseal_f (by omega) ho (by omega)]
    simp only [Option.bind_some]
    rw [same_f (by simp [le4]; omega) (by simp [le4]; omega), sum_f ho, refsum_f (by omega) ho (by omega)]
    simp only [Option.bind_some, beq_self_eq_true, if_true]
    rw [whole_f ho (by omega) (by omega), refwhole_f ho (by omega) (by omega)]
    simp

end Go.Proofs.Ytdkijmlfffnilaa.Pure
