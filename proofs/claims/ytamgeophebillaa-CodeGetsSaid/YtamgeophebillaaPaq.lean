/- How the seat's own types are opened, where they read as data. General. -/
import Derived.Test.YtamgeophebillaaPa0
import Derived.Test.YtamgeophebillaaOpens
namespace Go.Proofs.Ytamgeophebillaa.Pa
open Go.RowKit Go.Proofs.YtamgeophebillaaW.PrintWords Go.Proofs.Ytamgeophebillaa.Opens

def qT32 (x : S32) : Prop := (Lit.int .i64 x.f0).wf = true ∧ ((Lit.int .i64 x.f1).wf = true ∧ ((∀ y0 ∈ x.f2, (Lit.int .u8 y0).wf = true)))
theorem opens_T32 : Opens Try.prog 32 k32 qT32 := Opens.iso (fun x : S32 => (x.f0, x.f1, x.f2)) (fun p => ⟨p.1, p.2.1, p.2.2⟩) (fun _ => rfl) (Opens.struct Try.underlying32 (by kernel_rfl) (OpensL.cons (o1 := 1) (by kernel_rfl) rfl (by decide) (Opens.int Try.underlying3) (OpensL.cons (o1 := 2) (by kernel_rfl) rfl (by decide) (Opens.int Try.underlying3) (OpensL.last (by kernel_rfl) (Opens.slice (Q := fun z => (Lit.int .u8 z).wf = true) Try.underlying26 (by kernel_rfl) (Opens.int Try.underlying5))))))
end Go.Proofs.Ytamgeophebillaa.Pa
