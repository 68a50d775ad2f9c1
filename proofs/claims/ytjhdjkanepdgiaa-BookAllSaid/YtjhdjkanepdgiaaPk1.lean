/- Plain functions, and the walks that show that the Go functions come to them: written by this session's program wip/myprint.py, which runs the kit's print over the translation. No conditions beside those that each contract states. -/
import Derived.Test.YtjhdjkanepdgiaaPk0
import Derived.Test.YtjhdjkanepdgiaaBookExt
import Derived.Test.YtjhdjkanepdgiaaBookExt2
import Derived.Test.YtjhdjkanepdgiaaBookExt3
import Derived.Test.YtjhdjkanepdgiaaPa0
import Derived.Test.YtjhdjkanepdgiaaPa1
import Derived.Test.YtjhdjkanepdgiaaPa2
import Derived.Test.YtjhdjkanepdgiaaPa4
import Derived.Test.YtjhdjkanepdgiaaPb0
import Derived.Test.YtjhdjkanepdgiaaPb1
import Derived.Test.YtjhdjkanepdgiaaPb2
import Derived.Test.YtjhdjkanepdgiaaPb3
import Derived.Test.YtjhdjkanepdgiaaPaq
namespace Go.Proofs.Ytjhdjkanepdgiaa.Pk
open Go.Proofs.Ytjhdjkanepdgiaa.Pa Go.Proofs.Ytjhdjkanepdgiaa.Ext
open Go.RowKit Go.Proofs.YtjhdjkanepdgiaaW.PrintWords Go.Proofs.YtjhdjkanepdgiaaW.PrintLast Go.Proofs.YtjhdjkanepdgiaaW.PrintMore
attribute [local go_sem] max2_int min2_int max_two min_two max_three min_three max_four min_four   -- for this text's walks alone
set_option linter.unusedVariables false
set_option linter.unusedSimpArgs false

theorem eqA33 (d : Nat) (w : World) (x0 y0 : Int) (x1 y1 : Int) (x2 y2 : Int) :
    (Op.equalIn (d + 2) 33 (.agg #[.int .i64 x0, .int .i64 x1, .int .i64 x2]) (.agg #[.int .i64 y0, .int .i64 y1, .int .i64 y2])).run Try.prog w = .ok (x0 == y0 && (x1 == y1 && (x2 == y2))) w := by
  refine eqA_of Try.underlying33 (by kernel_rfl) ?_
  refine eqf_cons (by rfl) (by go_simp; rfl) (by go_simp; rfl) (by go_simp) ?_
  refine eqf_cons (by rfl) (by go_simp; rfl) (by go_simp; rfl) (by go_simp) ?_
  exact eqf_last (by rfl) (by go_simp; rfl) (by go_simp; rfl) (by go_simp)
end Go.Proofs.Ytjhdjkanepdgiaa.Pk
