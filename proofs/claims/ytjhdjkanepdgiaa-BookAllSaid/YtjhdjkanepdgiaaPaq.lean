/- How the seat's own types are opened, where they read as data. General. -/
import Derived.Test.YtjhdjkanepdgiaaPa0
import Derived.Test.YtjhdjkanepdgiaaOpens
namespace Go.Proofs.Ytjhdjkanepdgiaa.Pa
open Go.RowKit Go.Proofs.YtjhdjkanepdgiaaW.PrintWords Go.Proofs.Ytjhdjkanepdgiaa.Opens

def qT33 (x : S33) : Prop := (Lit.int .i64 x.f0).wf = true ∧ ((Lit.int .i64 x.f1).wf = true ∧ ((Lit.int .i64 x.f2).wf = true))
theorem opens_T33 : Opens Try.prog 33 k33 qT33 := Opens.iso (fun x : S33 => (x.f0, x.f1, x.f2)) (fun p => ⟨p.1, p.2.1, p.2.2⟩) (fun _ => rfl) (Opens.struct Try.underlying33 (by kernel_rfl) (OpensL.cons (o1 := 1) (by kernel_rfl) rfl (by decide) (Opens.int Try.underlying3) (OpensL.cons (o1 := 2) (by kernel_rfl) rfl (by decide) (Opens.int Try.underlying3) (OpensL.last (by kernel_rfl) (Opens.int Try.underlying3)))))
def qT25 (x : S25) : Prop := (Lit.int .i64 x.f0).wf = true ∧ ((Lit.int .i64 x.f1).wf = true ∧ ((∀ y0 ∈ x.f2, qT33 y0)))
theorem opens_T25 : Opens Try.prog 25 k25 qT25 := Opens.iso (fun x : S25 => (x.f0, x.f1, x.f2)) (fun p => ⟨p.1, p.2.1, p.2.2⟩) (fun _ => rfl) (Opens.struct Try.underlying25 (by kernel_rfl) (OpensL.cons (o1 := 1) (by kernel_rfl) rfl (by decide) (Opens.int Try.underlying3) (OpensL.cons (o1 := 2) (by kernel_rfl) rfl (by decide) (Opens.int Try.underlying3) (OpensL.last (by kernel_rfl) (Opens.slice (Q := fun z => qT33 z) Try.underlying23 (by kernel_rfl) opens_T33)))))
def qT43 (x : S43) : Prop := (Lit.int .i64 x.f0).wf = true ∧ ((Lit.int .i64 x.f1).wf = true)
end Go.Proofs.Ytjhdjkanepdgiaa.Pa
