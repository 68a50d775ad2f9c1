/- Plain functions, and the walks that show that the Go functions come to them: written by this session's program wip/myprint.py, which runs the kit's print over the translation. No conditions beside those that each contract states. -/
import Derived.Test.YtjhdjkanepdgiaaProg
import Derived.Below
import Derived.Deep.Draws
import Derived.Deep.AppendLies
import Derived.Maps.AppendAt
import Derived.OwnWalk
import Derived.Laws.BytesArg
import Derived.Laws.MakeOwn
import Derived.Laws.OwnMore
import Derived.Deep.OwnRows
import Derived.Tactics
import Derived.Lib.ConvBytes
import Derived.Laws.Slices
import Derived.WalkKit
import Derived.KernelRfl
import Derived.RowKit3
import Derived.Deep.LoopGhost
import Derived.Deep.QuietTactic
import Derived.BigQuiet
import Derived.WideLaws
import Derived.Deep.DeepCutAuto
import Derived.Deep.CutBlock
import Derived.Deep.RegionHeld3
import Derived.Laws.Rows
import Derived.Lib.AppendStr
import Derived.ArgAppend
import Derived.Laws.IdiomCopy
import Derived.OrdersHeld
import Derived.Laws.BitsLemmas
import Derived.RowKit
import Derived.Test.YtjhdjkanepdgiaaWWords
import Derived.Test.YtjhdjkanepdgiaaWLast
import Derived.Test.YtjhdjkanepdgiaaWTab
import Derived.Test.YtjhdjkanepdgiaaWQPut
import Derived.Test.YtjhdjkanepdgiaaWApart
import Derived.Test.YtjhdjkanepdgiaaWArr
import Derived.Test.YtjhdjkanepdgiaaWZeros
import Derived.Test.YtjhdjkanepdgiaaWFoot
import Derived.Test.YtjhdjkanepdgiaaWKept
import Derived.Test.YtjhdjkanepdgiaaWShare
import Derived.Test.YtjhdjkanepdgiaaWN
import Derived.Test.YtjhdjkanepdgiaaWEqStruct
import Derived.Test.YtjhdjkanepdgiaaWGuard
import Derived.Test.YtjhdjkanepdgiaaWNEv
import Derived.Test.YtjhdjkanepdgiaaWMore
import Derived.Test.YtjhdjkanepdgiaaPa0
namespace Go.Proofs.Ytjhdjkanepdgiaa.Pk
open Go.RowKit Go.Proofs.YtjhdjkanepdgiaaW.PrintWords Go.Proofs.YtjhdjkanepdgiaaW.PrintLast Go.Proofs.YtjhdjkanepdgiaaW.PrintMore
attribute [local go_sem] max2_int min2_int max_two min_two max_three min_three max_four min_four   -- for this text's walks alone
set_option linter.unusedVariables false
set_option linter.unusedSimpArgs false



def errW : Option Int → Value
  | none => .nilIface
  | some c => .iface 0 (.int .i64 c)
theorem errW_none : errW none = .nilIface := rfl
theorem errW_some (c : Int) : errW (some c) = .iface 0 (.int .i64 c) := rfl

theorem info3 : (Try.prog.info? 3).map (fun i => (i.zero, i.size, i.bytes)) = some (some (.int .i64 0), 1, 8) := by kernel_rfl
theorem info33 : (Try.prog.info? 33).map (fun i => (i.zero, i.size, i.bytes)) = some (some (.agg #[(.int .i64 0), (.int .i64 0), (.int .i64 0)]), 3, 24) := by kernel_rfl
-- the values' own types

end Go.Proofs.Ytjhdjkanepdgiaa.Pk
