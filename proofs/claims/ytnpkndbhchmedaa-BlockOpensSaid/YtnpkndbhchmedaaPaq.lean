/- How the seat's own types are opened, where they read as data. General. -/
import Derived.Test.YtnpkndbhchmedaaPa0
import Derived.Test.YtnpkndbhchmedaaOpens
namespace Go.Proofs.Ytnpkndbhchmedaa.Pa
open Go.RowKit Go.Proofs.YtnpkndbhchmedaaW.PrintWords Go.Proofs.Ytnpkndbhchmedaa.Opens

def qT24 (x : S24) : Prop := (Lit.int .i64 x.f0).wf = true ∧ ((Lit.int .i64 x.f1).wf = true ∧ ((Lit.int .i64 x.f2).wf = true ∧ ((Lit.int .i64 x.f3).wf = true ∧ ((Lit.int .i64 x.f4).wf = true ∧ ((∀ y0 ∈ x.f5, (Lit.int .u8 y0).wf = true))))))
theorem opens_T24 : Opens Try.prog 24 k24 qT24 := Opens.iso (fun x : S24 => (x.f0, x.f1, x.f2, x.f3, x.f4, x.f5)) (fun p => ⟨p.1, p.2.1, p.2.2.1, p.2.2.2.1, p.2.2.2.2.1, p.2.2.2.2.2⟩) (fun _ => rfl) (Opens.struct Try.underlying24 (by kernel_rfl) (OpensL.cons (o1 := 1) (by kernel_rfl) rfl (by decide) (Opens.int Try.underlying3) (OpensL.cons (o1 := 2) (by kernel_rfl) rfl (by decide) (Opens.int Try.underlying3) (OpensL.cons (o1 := 3) (by kernel_rfl) rfl (by decide) (Opens.int Try.underlying3) (OpensL.cons (o1 := 4) (by kernel_rfl) rfl (by decide) (Opens.int Try.underlying3) (OpensL.cons (o1 := 5) (by kernel_rfl) rfl (by decide) (Opens.int Try.underlying3) (OpensL.last (by kernel_rfl) (Opens.slice (Q := fun z => (Lit.int .u8 z).wf = true) Try.underlying22 (by kernel_rfl) (Opens.int Try.underlying5)))))))))
end Go.Proofs.Ytnpkndbhchmedaa.Pa
