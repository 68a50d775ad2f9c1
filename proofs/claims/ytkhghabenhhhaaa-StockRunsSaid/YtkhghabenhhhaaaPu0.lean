/- Plain functions, and the walks that show that the Go functions come to them: written by this session's program wip/myprint.py, which runs the kit's print over the translation. No conditions beside those that each contract states. -/
import Derived.Test.YtkhghabenhhhaaaProg
import Derived.Below
import Derived.Deep.Draws
import Derived.Deep.AppendLies
import Derived.Maps.AppendAt
import Derived.OwnWalk
import Derived.Laws.BytesArg
import Derived.Laws.MakeOwn
import Derived.Laws.OwnMore
import Derived.Deep.OwnRows
import Derived.Tactics
import Derived.Lib.ConvBytes
import Derived.Laws.Slices
import Derived.WalkKit
import Derived.KernelRfl
import Derived.RowKit3
import Derived.Deep.LoopGhost
import Derived.Deep.QuietTactic
import Derived.BigQuiet
import Derived.WideLaws
import Derived.Deep.DeepCutAuto
import Derived.Deep.CutBlock
import Derived.Deep.RegionHeld3
import Derived.Laws.Rows
import Derived.Lib.AppendStr
import Derived.ArgAppend
import Derived.Laws.IdiomCopy
import Derived.OrdersHeld
import Derived.Laws.BitsLemmas
import Derived.RowKit
import Derived.Test.YtkhghabenhhhaaaWWords
import Derived.Test.YtkhghabenhhhaaaWLast
import Derived.Test.YtkhghabenhhhaaaWTab
import Derived.Test.YtkhghabenhhhaaaWQPut
import Derived.Test.YtkhghabenhhhaaaWApart
import Derived.Test.YtkhghabenhhhaaaWArr
import Derived.Test.YtkhghabenhhhaaaWZeros
import Derived.Test.YtkhghabenhhhaaaWFoot
import Derived.Test.YtkhghabenhhhaaaWKept
import Derived.Test.YtkhghabenhhhaaaWShare
import Derived.Test.YtkhghabenhhhaaaWN
import Derived.Test.YtkhghabenhhhaaaWEqStruct
import Derived.Test.YtkhghabenhhhaaaWGuard
import Derived.Test.YtkhghabenhhhaaaWNEv
import Derived.Test.YtkhghabenhhhaaaWMore
import Derived.Test.YtkhghabenhhhaaaWRepsOne
import Derived.Test.YtkhghabenhhhaaaPa0
namespace Go.Proofs.Ytkhghabenhhhaaa.Pu
open Go.RowKit Go.Proofs.YtkhghabenhhhaaaW.PrintWords Go.Proofs.YtkhghabenhhhaaaW.PrintLast Go.Proofs.YtkhghabenhhhaaaW.PrintMore
attribute [local go_sem] max2_int min2_int max_two min_two max_three min_three max_four min_four   -- for this text's walks alone
set_option linter.unusedVariables false
set_option linter.unusedSimpArgs false



def errW : Option Int → Value
  | none => .nilIface
  | some c => .iface 0 (.int .i64 c)
theorem errW_none : errW none = .nilIface := rfl
theorem errW_some (c : Int) : errW (some c) = .iface 0 (.int .i64 c) := rfl

theorem info32 : (Try.prog.info? 32).map (fun i => (i.zero, i.size, i.bytes)) = some (some (.agg #[(.int .i64 0), (.int .i64 0), (.int .i64 0)]), 3, 24) := by kernel_rfl
-- the values' own types

end Go.Proofs.Ytkhghabenhhhaaa.Pu
