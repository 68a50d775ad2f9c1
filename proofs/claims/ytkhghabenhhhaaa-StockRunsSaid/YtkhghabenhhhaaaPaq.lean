/- How the seat's own types are opened, where they read as data. General. -/
import Derived.Test.YtkhghabenhhhaaaPa0
import Derived.Test.YtkhghabenhhhaaaOpens
namespace Go.Proofs.Ytkhghabenhhhaaa.Pa
open Go.RowKit Go.Proofs.YtkhghabenhhhaaaW.PrintWords Go.Proofs.Ytkhghabenhhhaaa.Opens

def qT37 (x : S37) : Prop := (Lit.int .i64 x.f0).wf = true ∧ ((Lit.int .i64 x.f1).wf = true ∧ ((Lit.int .i64 x.f2).wf = true ∧ ((Lit.int .i64 x.f3).wf = true)))
theorem opens_T37 : Opens Try.prog 37 k37 qT37 := Opens.iso (fun x : S37 => (x.f0, x.f1, x.f2, x.f3)) (fun p => ⟨p.1, p.2.1, p.2.2.1, p.2.2.2⟩) (fun _ => rfl) (Opens.struct Try.underlying37 (by kernel_rfl) (OpensL.cons (o1 := 1) (by kernel_rfl) rfl (by decide) (Opens.int Try.underlying3) (OpensL.cons (o1 := 2) (by kernel_rfl) rfl (by decide) (Opens.int Try.underlying3) (OpensL.cons (o1 := 3) (by kernel_rfl) rfl (by decide) (Opens.int Try.underlying3) (OpensL.last (by kernel_rfl) (Opens.int Try.underlying3))))))
def qT32 (x : S32) : Prop := (Lit.int .i64 x.f0).wf = true ∧ ((Lit.int .i64 x.f1).wf = true ∧ ((Lit.int .i64 x.f2).wf = true))
theorem opens_T32 : Opens Try.prog 32 k32 qT32 := Opens.iso (fun x : S32 => (x.f0, x.f1, x.f2)) (fun p => ⟨p.1, p.2.1, p.2.2⟩) (fun _ => rfl) (Opens.struct Try.underlying32 (by kernel_rfl) (OpensL.cons (o1 := 1) (by kernel_rfl) rfl (by decide) (Opens.int Try.underlying3) (OpensL.cons (o1 := 2) (by kernel_rfl) rfl (by decide) (Opens.int Try.underlying3) (OpensL.last (by kernel_rfl) (Opens.int Try.underlying3)))))
def qT34 (x : S34) : Prop := (Lit.int .i64 x.f0).wf = true ∧ ((Lit.int .i64 x.f1).wf = true ∧ (qT32 x.f2 ∧ ((∀ y0 ∈ x.f3, qT32 y0))))
theorem opens_T34 : Opens Try.prog 34 k34 qT34 := Opens.iso (fun x : S34 => (x.f0, x.f1, x.f2, x.f3)) (fun p => ⟨p.1, p.2.1, p.2.2.1, p.2.2.2⟩) (fun _ => rfl) (Opens.struct Try.underlying34 (by kernel_rfl) (OpensL.cons (o1 := 1) (by kernel_rfl) rfl (by decide) (Opens.int Try.underlying3) (OpensL.cons (o1 := 2) (by kernel_rfl) rfl (by decide) (Opens.int Try.underlying3) (OpensL.cons (o1 := 5) (by kernel_rfl) rfl (by decide) opens_T32 (OpensL.last (by kernel_rfl) (Opens.slice (Q := fun z => qT32 z) Try.underlying23 (by kernel_rfl) opens_T32))))))
end Go.Proofs.Ytkhghabenhhhaaa.Pa
