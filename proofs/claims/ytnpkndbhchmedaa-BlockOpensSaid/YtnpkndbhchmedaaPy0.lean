/- Plain functions, and the walks that show that the Go functions come to them: written by this session's program wip/myprint.py, which runs the kit's print over the translation. No conditions beside those that each contract states. -/
import Derived.Test.YtnpkndbhchmedaaProg
import Derived.Below
import Derived.Deep.Draws
import Derived.Deep.AppendLies
import Derived.Maps.AppendAt
import Derived.OwnWalk
import Derived.Laws.BytesArg
import Derived.Laws.MakeOwn
import Derived.Laws.OwnMore
import Derived.Deep.OwnRows
import Derived.Tactics
import Derived.Lib.ConvBytes
import Derived.Laws.Slices
import Derived.WalkKit
import Derived.KernelRfl
import Derived.RowKit3
import Derived.Deep.LoopGhost
import Derived.Deep.QuietTactic
import Derived.BigQuiet
import Derived.WideLaws
import Derived.Deep.DeepCutAuto
import Derived.Deep.CutBlock
import Derived.Deep.RegionHeld3
import Derived.Laws.Rows
import Derived.Lib.AppendStr
import Derived.ArgAppend
import Derived.Laws.IdiomCopy
import Derived.OrdersHeld
import Derived.Laws.BitsLemmas
import Derived.RowKit
import Derived.Test.YtnpkndbhchmedaaWWords
import Derived.Test.YtnpkndbhchmedaaWLast
import Derived.Test.YtnpkndbhchmedaaWTab
import Derived.Test.YtnpkndbhchmedaaWFour
import Derived.Test.YtnpkndbhchmedaaWQPut
import Derived.Test.YtnpkndbhchmedaaWApart
import Derived.Test.YtnpkndbhchmedaaWArr
import Derived.Test.YtnpkndbhchmedaaWZeros
import Derived.Test.YtnpkndbhchmedaaWFoot
import Derived.Test.YtnpkndbhchmedaaWKept
import Derived.Test.YtnpkndbhchmedaaWShare
import Derived.Test.YtnpkndbhchmedaaWN
import Derived.Test.YtnpkndbhchmedaaWFootNe
import Derived.Test.YtnpkndbhchmedaaWAt
import Derived.Test.YtnpkndbhchmedaaWEqStruct
import Derived.Test.YtnpkndbhchmedaaWRepsOne
import Derived.Test.YtnpkndbhchmedaaWInv
import Derived.Test.YtnpkndbhchmedaaWInvWords
import Derived.Test.YtnpkndbhchmedaaWGuard
import Derived.Test.YtnpkndbhchmedaaWNEv
import Derived.Test.YtnpkndbhchmedaaWMore
import Derived.Test.YtnpkndbhchmedaaPa0
namespace Go.Proofs.Ytnpkndbhchmedaa.Py
open Go.RowKit Go.Proofs.YtnpkndbhchmedaaW.PrintWords Go.Proofs.YtnpkndbhchmedaaW.PrintLast Go.Proofs.YtnpkndbhchmedaaW.PrintMore
attribute [local go_sem] max2_int min2_int max_two min_two max_three min_three max_four min_four   -- for this text's walks alone
set_option linter.unusedVariables false
set_option linter.unusedSimpArgs false



def errW : Option Int → Value
  | none => .nilIface
  | some c => .iface 0 (.int .i64 c)
theorem errW_none : errW none = .nilIface := rfl
theorem errW_some (c : Int) : errW (some c) = .iface 0 (.int .i64 c) := rfl

-- the values' own types

end Go.Proofs.Ytnpkndbhchmedaa.Py
