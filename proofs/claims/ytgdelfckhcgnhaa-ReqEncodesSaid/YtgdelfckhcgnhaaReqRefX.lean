/- The reference's numbers, in the form in which the print tells its contracts. -/
import Derived.Test.YtgdelfckhcgnhaaReqRef
namespace Go.Proofs.Ytgdelfckhcgnhaa.Ext
open Go Go.RowKit Go.Proofs.Ytgdelfckhcgnhaa.Pa Go.Proofs.Ytgdelfckhcgnhaa.Code Go.Proofs.YtgdelfckhcgnhaaW.PrintWords Go.Proofs.YtgdelfckhcgnhaaW.PrintLast Go.Proofs.YtgdelfckhcgnhaaW.PrintMore
def quartermasterref05_Num.f (a0 : Int) : Option (List Int) := if 0 ≤ a0 ∧ a0 < 9223372036854775808 then some (digs a0.toNat) else none
theorem quartermasterref05_Num.calls (a0 : Int) (r : List Int) (w : World) (h : quartermasterref05_Num.f a0 = some r) :
    Calls Try.prog 36 #[.int .i64 a0] w fun e w' => ∃ v0_ : Value, e = .returned (v0_) ∧ Kd.R (Kd.int .u8) 5 w' w.heap.size (fun _ => True) v0_ r ∧ Below w.heap.size w w' := by
  unfold quartermasterref05_Num.f at h
  by_cases hp : 0 ≤ a0 ∧ a0 < 9223372036854775808
  · rw [if_pos hp] at h
    have p := rnum_any a0 w hp.1 hp.2
    rw [Option.some.inj h] at p
    exact p
  · rw [if_neg hp] at h; cases h
def quartermasterref05_Int.f (a0 : Int) : Option (List Int) := if -9223372036854775808 ≤ a0 ∧ a0 < 9223372036854775808 then some (digs (zig a0)) else none
theorem quartermasterref05_Int.calls (a0 : Int) (r : List Int) (w : World) (h : quartermasterref05_Int.f a0 = some r) :
    Calls Try.prog 39 #[.int .i64 a0] w fun e w' => ∃ v0_ : Value, e = .returned (v0_) ∧ Kd.R (Kd.int .u8) 5 w' w.heap.size (fun _ => True) v0_ r ∧ Below w.heap.size w w' := by
  unfold quartermasterref05_Int.f at h
  by_cases hp : -9223372036854775808 ≤ a0 ∧ a0 < 9223372036854775808
  · rw [if_pos hp] at h
    have p := rint_any a0 w hp.1 hp.2
    rw [Option.some.inj h] at p
    exact p
  · rw [if_neg hp] at h; cases h
end Go.Proofs.Ytgdelfckhcgnhaa.Ext
