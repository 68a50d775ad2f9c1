/- A block is Good to one who wants it alone: the law over numbers and lists. -/
import Derived.Test.YtnpkndbhchmedaaPx3
namespace Go.Proofs.Ytnpkndbhchmedaa.Pure
open Go.RowKit Go.Proofs.Ytnpkndbhchmedaa.Px Go.Proofs.Ytnpkndbhchmedaa.Ext
theorem BlockApart : quartermasterlaw07_BlockApart.Pure := by
  intro a0 a1 a2 a3 a4 l b0 b1 b2 b3 b4 m _ _ _ _ _ _ hw _ _ _ _ _ _ _
  exact ⟨0, by unfold quartermasterlaw07_BlockApart.f; rw [if_pos (okB_wf hw)]⟩
end Go.Proofs.Ytnpkndbhchmedaa.Pure
