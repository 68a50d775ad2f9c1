/- What book.Ship and book.Close come to, in the form in which the print tells its contracts. -/
import Derived.Test.YtjhdjkanepdgiaaBookShipE
namespace Go.Proofs.Ytjhdjkanepdgiaa.Ext
open Go Go.RowKit Go.Proofs.Ytjhdjkanepdgiaa.Pa Go.Proofs.Ytjhdjkanepdgiaa.Book Go.Proofs.YtjhdjkanepdgiaaW.PrintWords Go.Proofs.YtjhdjkanepdgiaaW.PrintLast Go.Proofs.YtjhdjkanepdgiaaW.PrintMore
set_option linter.unusedVariables false

def book_Ship.f (l0 : List (S25)) (a1 a2 a3 : Int) : Option (List (S25) × Int × Int × Int × Int) := if Lim l0 then some ((shipP l0 a1 a2 a3).1, (shipP l0 a1 a2 a3).2.1.f0, (shipP l0 a1 a2 a3).2.1.f1, (shipP l0 a1 a2 a3).2.1.f2, (shipP l0 a1 a2 a3).2.2) else none
theorem book_Ship.calls (A0 : Option Addr) (c0 : Nat) (l0 : List (S25)) (a1 : Int) (a2 : Int) (a3 : Int) (r1 : List (S25)) (r2 : Int) (r3 : Int) (r4 : Int) (r5 : Int) (w : World) (hr0 : Kd.C k25 w A0 l0.length l0) (hc0 : l0.length ≤ c0) (h : book_Ship.f l0 a1 a2 a3 = some (r1, r2, r3, r4, r5)) :
    Calls Try.prog 12 #[.slice A0 l0.length c0, .int .i64 a1, .int .i64 a2, .int .i64 a3] w fun e w' => ∃ v0_ : Value, e = .returned (.tuple #[v0_, .agg #[.int .i64 r2, .int .i64 r3, .int .i64 r4], .int .i64 r5]) ∧ Kd.S k25 25 w' w.heap.size (fun _ => True) v0_ r1 ∧ Below w.heap.size w w' := by
  unfold book_Ship.f at h
  by_cases hp : Lim l0
  · rw [if_pos hp] at h
    have p := ship_any a1 a2 a3 A0 c0 l0 w hr0 hc0 hp
    obtain ⟨r, hr⟩ : ∃ r, r = shipP l0 a1 a2 a3 := ⟨_, rfl⟩
    rw [← hr] at h p
    have h2 := Option.some.inj h
    simp only [Prod.mk.injEq] at h2
    obtain ⟨rfl, rfl, rfl, rfl, rfl⟩ := h2
    exact p
  · rw [if_neg hp] at h; cases h
def book_Close.f (l0 : List (S25)) (a1 : Int) : Option (List (S25) × List (S33) × Int) := if l0.length ≤ 999999999 then some (closeP l0 a1) else none
theorem book_Close.calls (A0 : Option Addr) (c0 : Nat) (l0 : List (S25)) (a1 : Int) (r1 : List (S25)) (r2 : List (S33)) (r3 : Int) (w : World) (hr0 : Kd.C k25 w A0 l0.length l0) (hc0 : l0.length ≤ c0) (h : book_Close.f l0 a1 = some (r1, r2, r3)) :
    Calls Try.prog 13 #[.slice A0 l0.length c0, .int .i64 a1] w fun e w' => ∃ v0_ v1_ : Value, e = .returned (.tuple #[v0_, v1_, .int .i64 r3]) ∧ Kd.S k25 25 w' w.heap.size (fun k_ => some k_ ≠ (v1_ : Value).ownBlock) v0_ r1 ∧ Kd.R k33 33 w' w.heap.size (fun _ => True) v1_ r2 ∧ Below w.heap.size w w' := by
  unfold book_Close.f at h
  by_cases hp : l0.length ≤ 999999999
  · rw [if_pos hp] at h
    have p := close_any a1 A0 c0 l0 w hr0 hc0 hp
    rw [Option.some.inj h] at p
    exact p
  · rw [if_neg hp] at h; cases h
end Go.Proofs.Ytjhdjkanepdgiaa.Ext
