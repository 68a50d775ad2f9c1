/- Requests and replies as bytes: plain laws. No program in sight. -/
import Derived.Test.YtgdelfckhcgnhaaReqRT
import Derived.Lib.Bytes
namespace Go.Proofs.Ytgdelfckhcgnhaa.Code
open Go.RowKit Go.Proofs.Ytgdelfckhcgnhaa.Pa Go.Proofs.YtgdelfckhcgnhaaW.PrintWords Go.Proofs.YtgdelfckhcgnhaaW.PrintLast Go.Proofs.YtgdelfckhcgnhaaW.PrintMore
set_option linter.unusedVariables false

structure Rep.In (r : Rep) : Prop where
  c : In64 r.c
  a : In64 r.a
  b : In64 r.b
  L : ∀ y ∈ r.L, L3 y
  K : ∀ y ∈ r.K, L4 y
  l : r.L.length ≤ 1000000
  k : r.K.length ≤ 1000000
/-! #### Are two lists of bytes the same? -/
/-! #### Requests -/
/-! #### Replies -/
end Go.Proofs.Ytgdelfckhcgnhaa.Code
