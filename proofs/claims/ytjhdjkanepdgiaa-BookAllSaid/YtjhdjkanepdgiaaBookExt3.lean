/- What book.Over comes to, in the form in which the print tells its contracts. -/
import Derived.Test.YtjhdjkanepdgiaaBookOver
namespace Go.Proofs.Ytjhdjkanepdgiaa.Ext
open Go Go.RowKit Go.Proofs.Ytjhdjkanepdgiaa.Pa Go.Proofs.Ytjhdjkanepdgiaa.Book Go.Proofs.Ytjhdjkanepdgiaa.Over Go.Proofs.YtjhdjkanepdgiaaW.PrintWords Go.Proofs.YtjhdjkanepdgiaaW.PrintLast Go.Proofs.YtjhdjkanepdgiaaW.PrintMore
set_option linter.unusedVariables false

def book_Over.f (l0 : List (S25)) (a1 : Int) : Option (List Int) := if l0.length ≤ 999999999 then some (overP l0 a1) else none
theorem book_Over.calls (A0 : Option Addr) (c0 : Nat) (l0 : List (S25)) (a1 : Int) (r : List Int) (w : World) (hr0 : Kd.C k25 w A0 l0.length l0) (hc0 : l0.length ≤ c0) (h : book_Over.f l0 a1 = some r) :
    Calls Try.prog 20 #[.slice A0 l0.length c0, .int .i64 a1] w fun e w' => ∃ v0_ : Value, e = .returned (v0_) ∧ Kd.R (Kd.int .i64) 3 w' w.heap.size (fun _ => True) v0_ r ∧ Below w.heap.size w w' := by
  unfold book_Over.f at h
  by_cases hp : l0.length ≤ 999999999
  · rw [if_pos hp] at h
    have p := over_any a1 A0 c0 l0 w hr0 hc0 hp
    rw [Option.some.inj h] at p
    exact p
  · rw [if_neg hp] at h; cases h
end Go.Proofs.Ytjhdjkanepdgiaa.Ext
