/- What book.one, book.at and slices.Clone come to, in the form in which the print tells its contracts. -/
import Derived.Test.YtjhdjkanepdgiaaBookOne
namespace Go.Proofs.Ytjhdjkanepdgiaa.Ext
open Go Go.RowKit Go.Proofs.Ytjhdjkanepdgiaa.Pa Go.Proofs.Ytjhdjkanepdgiaa.Book Go.Proofs.YtjhdjkanepdgiaaW.PrintWords Go.Proofs.YtjhdjkanepdgiaaW.PrintLast Go.Proofs.YtjhdjkanepdgiaaW.PrintMore
set_option linter.unusedVariables false
def book_one.f (a0_0 a0_1 : Int) (l0_2 : List (S33)) : Option Bool := some (oneB a0_0 a0_1 l0_2)
theorem book_one.calls (a0_0 : Int) (a0_1 : Int) (A0_2 : Option Addr) (c0_2 : Nat) (l0_2 : List (S33)) (r : Bool) (w : World) (hr0_2 : Kd.C k33 w A0_2 l0_2.length l0_2) (hc0_2 : l0_2.length ≤ c0_2) (h : book_one.f a0_0 a0_1 l0_2 = some r) :
    Calls Try.prog 25 #[.agg #[.int .i64 a0_0, .int .i64 a0_1, .slice A0_2 l0_2.length c0_2]] w fun e w' => e = .returned (.bool r) ∧ Below w.heap.size w w' := by
  obtain rfl := Option.some.inj h
  exact one_any a0_0 a0_1 A0_2 c0_2 l0_2 w hr0_2 hc0_2
def book_at.f (l0 : List (S25)) (a1 : Int) : Option Int := some (idxB a1 l0)
theorem book_at.calls (A0 : Option Addr) (c0 : Nat) (l0 : List (S25)) (a1 : Int) (r : Int) (w : World) (hr0 : Kd.C k25 w A0 l0.length l0) (hc0 : l0.length ≤ c0) (h : book_at.f l0 a1 = some r) :
    Calls Try.prog 39 #[.slice A0 l0.length c0, .int .i64 a1] w fun e w' => e = .returned (.int .i64 r) ∧ Below w.heap.size w w' := by
  obtain rfl := Option.some.inj h
  exact at_any a1 A0 c0 l0 w hr0 hc0
def slices_Clone.f (l0 : List (S33)) : Option (List S33) := if l0.length ≤ 1000000 then some l0 else none
theorem slices_Clone.calls (A0 : Option Addr) (c0 : Nat) (l0 : List (S33)) (r : List S33) (w : World) (hr0 : Kd.C k33 w A0 l0.length l0) (hc0 : l0.length ≤ c0) (h : slices_Clone.f l0 = some r) :
    Calls Try.prog 33 #[.slice A0 l0.length c0] w fun e w' => ∃ v0_ : Value, e = .returned v0_ ∧ Kd.R k33 33 w' w.heap.size (fun _ => True) v0_ r ∧ Below w.heap.size w w' := by
  unfold slices_Clone.f at h
  by_cases hp : l0.length ≤ 1000000
  · rw [if_pos hp] at h
    obtain rfl := Option.some.inj h
    exact clone_any33 A0 c0 l0 w hr0 hc0 (by omega)
  · rw [if_neg hp] at h; cases h
end Go.Proofs.Ytjhdjkanepdgiaa.Ext
