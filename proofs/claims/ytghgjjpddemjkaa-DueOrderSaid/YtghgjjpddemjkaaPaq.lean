/- How the seat's own types are opened, where they read as data. General. -/
import Derived.Test.YtghgjjpddemjkaaPa0
import Derived.Test.YtghgjjpddemjkaaOpens
namespace Go.Proofs.Ytghgjjpddemjkaa.Pa
open Go.RowKit Go.Proofs.YtghgjjpddemjkaaW.PrintWords Go.Proofs.Ytghgjjpddemjkaa.Opens

def qT30 (x : S30) : Prop := (Lit.int .i64 x.f0).wf = true ∧ ((Lit.int .i64 x.f1).wf = true)
theorem opens_T30 : Opens Try.prog 30 k30 qT30 := Opens.iso (fun x : S30 => (x.f0, x.f1)) (fun p => ⟨p.1, p.2⟩) (fun _ => rfl) (Opens.struct Try.underlying30 (by kernel_rfl) (OpensL.cons (o1 := 1) (by kernel_rfl) rfl (by decide) (Opens.int Try.underlying3) (OpensL.last (by kernel_rfl) (Opens.int Try.underlying3))))
def qT39 (x : S39) : Prop := (Lit.int .i64 x.f0).wf = true ∧ (qT30 x.f1)
theorem opens_T39 : Opens Try.prog 39 k39 qT39 := Opens.iso (fun x : S39 => (x.f0, x.f1)) (fun p => ⟨p.1, p.2⟩) (fun _ => rfl) (Opens.struct Try.underlying39 (by kernel_rfl) (OpensL.cons (o1 := 1) (by kernel_rfl) rfl (by decide) (Opens.int Try.underlying3) (OpensL.last (by kernel_rfl) opens_T30)))
end Go.Proofs.Ytghgjjpddemjkaa.Pa
