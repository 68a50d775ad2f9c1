/- How the seat's own types are opened, where they read as data. General. -/
import Derived.Test.YtgdelfckhcgnhaaPa0
import Derived.Test.YtgdelfckhcgnhaaOpens
namespace Go.Proofs.Ytgdelfckhcgnhaa.Pa
open Go.RowKit Go.Proofs.YtgdelfckhcgnhaaW.PrintWords Go.Proofs.Ytgdelfckhcgnhaa.Opens

def qT93 (x : S93) : Prop := (Lit.int .i64 x.f0).wf = true ∧ ((Lit.int .i64 x.f1).wf = true ∧ ((Lit.int .i64 x.f2).wf = true))
def qT26 (x : S26) : Prop := (Lit.int .i64 x.f0).wf = true ∧ ((Lit.int .i64 x.f1).wf = true ∧ ((Lit.int .i64 x.f2).wf = true ∧ ((Lit.int .i64 x.f3).wf = true ∧ ((Lit.int .i64 x.f4).wf = true ∧ ((Lit.int .i64 x.f5).wf = true ∧ ((Lit.int .i64 x.f6).wf = true ∧ ((Lit.int .i64 x.f7).wf = true ∧ ((Lit.int .i64 x.f8).wf = true ∧ ((∀ y0 ∈ x.f9, qT93 y0))))))))))
def qT76 (x : S76) : Prop := (Lit.int .i64 x.f0).wf = true ∧ ((Lit.int .i64 x.f1).wf = true ∧ ((Lit.int .i64 x.f2).wf = true ∧ ((Lit.int .i64 x.f3).wf = true)))
def qT38 (x : S38) : Prop := (Lit.int .i64 x.f0).wf = true ∧ ((Lit.int .i64 x.f1).wf = true ∧ ((Lit.int .i64 x.f2).wf = true ∧ ((∀ y0 ∈ x.f3, qT93 y0) ∧ ((∀ y0 ∈ x.f4, qT76 y0)))))
end Go.Proofs.Ytgdelfckhcgnhaa.Pa
