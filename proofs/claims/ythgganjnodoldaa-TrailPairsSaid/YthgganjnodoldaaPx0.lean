/- Plain functions, and the walks that show that the Go functions come to them: written by this session's program wip/myprint.py, which runs the kit's print over the translation. No conditions beside those that each contract states. -/
import Derived.Test.YthgganjnodoldaaProg
import Derived.Below
import Derived.Deep.Draws
import Derived.Deep.AppendLies
import Derived.Maps.AppendAt
import Derived.OwnWalk
import Derived.Laws.BytesArg
import Derived.Laws.MakeOwn
import Derived.Laws.OwnMore
import Derived.Deep.OwnRows
import Derived.Tactics
import Derived.Lib.ConvBytes
import Derived.Laws.Slices
import Derived.WalkKit
import Derived.KernelRfl
import Derived.RowKit3
import Derived.Deep.LoopGhost
import Derived.Deep.QuietTactic
import Derived.BigQuiet
import Derived.WideLaws
import Derived.Deep.DeepCutAuto
import Derived.Deep.CutBlock
import Derived.Deep.RegionHeld3
import Derived.Laws.Rows
import Derived.Lib.AppendStr
import Derived.ArgAppend
import Derived.Laws.IdiomCopy
import Derived.OrdersHeld
import Derived.Laws.BitsLemmas
import Derived.RowKit
import Derived.Test.YthgganjnodoldaaWWords
import Derived.Test.YthgganjnodoldaaWLast
import Derived.Test.YthgganjnodoldaaWTab
import Derived.Test.YthgganjnodoldaaWFour
import Derived.Test.YthgganjnodoldaaWQPut
import Derived.Test.YthgganjnodoldaaWApart
import Derived.Test.YthgganjnodoldaaWArr
import Derived.Test.YthgganjnodoldaaWZeros
import Derived.Test.YthgganjnodoldaaWFoot
import Derived.Test.YthgganjnodoldaaWKept
import Derived.Test.YthgganjnodoldaaWShare
import Derived.Test.YthgganjnodoldaaWN
import Derived.Test.YthgganjnodoldaaWFootNe
import Derived.Test.YthgganjnodoldaaWAt
import Derived.Test.YthgganjnodoldaaWEqStruct
import Derived.Test.YthgganjnodoldaaWRepsOne
import Derived.Test.YthgganjnodoldaaWInv
import Derived.Test.YthgganjnodoldaaWInvWords
import Derived.Test.YthgganjnodoldaaWGuard
import Derived.Test.YthgganjnodoldaaWNEv
import Derived.Test.YthgganjnodoldaaWMore
import Derived.Test.YthgganjnodoldaaPa0
namespace Go.Proofs.Ythgganjnodoldaa.Px
open Go.RowKit Go.Proofs.YthgganjnodoldaaW.PrintWords Go.Proofs.YthgganjnodoldaaW.PrintLast Go.Proofs.YthgganjnodoldaaW.PrintMore
attribute [local go_sem] max2_int min2_int max_two min_two max_three min_three max_four min_four   -- for this text's walks alone
set_option linter.unusedVariables false
set_option linter.unusedSimpArgs false



def errW : Option Int → Value
  | none => .nilIface
  | some c => .iface 0 (.int .i64 c)
theorem errW_none : errW none = .nilIface := rfl
theorem errW_some (c : Int) : errW (some c) = .iface 0 (.int .i64 c) := rfl

theorem info35 : (Try.prog.info? 35).map (fun i => (i.zero, i.size, i.bytes)) = some (some (.agg #[(.int .i64 0), (.int .i64 0), (.int .i64 0), (.int .i64 0)]), 4, 32) := by kernel_rfl
-- the values' own types

end Go.Proofs.Ythgganjnodoldaa.Px
