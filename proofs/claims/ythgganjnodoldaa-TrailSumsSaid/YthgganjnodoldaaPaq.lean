/- How the seat's own types are opened, where they read as data. General. -/
import Derived.Test.YthgganjnodoldaaPa0
import Derived.Test.YthgganjnodoldaaOpens
namespace Go.Proofs.Ythgganjnodoldaa.Pa
open Go.RowKit Go.Proofs.YthgganjnodoldaaW.PrintWords Go.Proofs.Ythgganjnodoldaa.Opens

def qT35 (x : S35) : Prop := (Lit.int .i64 x.f0).wf = true ∧ ((Lit.int .i64 x.f1).wf = true ∧ ((Lit.int .i64 x.f2).wf = true ∧ ((Lit.int .i64 x.f3).wf = true)))
theorem opens_T35 : Opens Try.prog 35 k35 qT35 := Opens.iso (fun x : S35 => (x.f0, x.f1, x.f2, x.f3)) (fun p => ⟨p.1, p.2.1, p.2.2.1, p.2.2.2⟩) (fun _ => rfl) (Opens.struct Try.underlying35 (by kernel_rfl) (OpensL.cons (o1 := 1) (by kernel_rfl) rfl (by decide) (Opens.int Try.underlying3) (OpensL.cons (o1 := 2) (by kernel_rfl) rfl (by decide) (Opens.int Try.underlying3) (OpensL.cons (o1 := 3) (by kernel_rfl) rfl (by decide) (Opens.int Try.underlying3) (OpensL.last (by kernel_rfl) (Opens.int Try.underlying3))))))
end Go.Proofs.Ythgganjnodoldaa.Pa
