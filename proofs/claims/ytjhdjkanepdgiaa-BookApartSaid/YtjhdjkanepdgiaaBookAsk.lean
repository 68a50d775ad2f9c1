/- What the laws of bookings ask, as plain laws. No conditions beside those that each lemma states. -/
import Derived.Test.YtjhdjkanepdgiaaPf2
import Derived.Test.YtjhdjkanepdgiaaPaq
import Derived.Test.YtjhdjkanepdgiaaBookSame
namespace Go.Proofs.Ytjhdjkanepdgiaa.Ask
open Go Go.RowKit Go.Proofs.Ytjhdjkanepdgiaa.Pa Go.Proofs.Ytjhdjkanepdgiaa.Pb Go.Proofs.Ytjhdjkanepdgiaa.Pf Go.Proofs.YtjhdjkanepdgiaaW.PrintWords Go.Proofs.YtjhdjkanepdgiaaW.PrintLast Go.Proofs.Ytjhdjkanepdgiaa.Book Go.Proofs.Ytjhdjkanepdgiaa.Ext
set_option linter.unusedVariables false

theorem awake_f : quartermasterlaw18_awake.f 40 = some true := by decide +kernel
theorem awake_any (w : World) : Calls Try.prog 8 #[] w fun e w' => e = .returned (.bool true) ∧ Below w.heap.size w w' := quartermasterlaw18_awake.calls 40 true w awake_f
/-- One booking that stands in a block is a row of one. -/
theorem one_C {W : World} {g : Nat} {x : Booking} {A : Option Addr} {c : Nat} (hb : W.heap[g]? = some (.cells #[.int .i64 x.f0, .int .i64 x.f1, .slice A x.f2.length c] 25 (0, 0))) (hC : Kd.C k33 W A x.f2.length x.f2) (hc : x.f2.length ≤ c) :
    Kd.C k25 W (some ⟨g, 0, none⟩) [x].length [x] := by
  refine ⟨rfl, by simp, fun _ => ⟨_, rfl, fun j p hj => ?_⟩⟩
  have hj0 : j = 0 := by
    have := (List.getElem?_eq_some_iff.1 hj).1
    simpa using this
  subst hj0
  have hp : p = x := by simpa using hj.symm
  subst hp
  refine ⟨_, rfl, k25_mk W p hc hC, fun i u hi => ?_⟩
  have h3 : i < 3 := by
    have := (List.getElem?_eq_some_iff.1 hi).1
    simpa using this
  have e : ({ block := g, off := 0 } : Addr).add (0 * k25.sz + i) = ⟨g, i, none⟩ := by simp [Addr.add] <;> omega
  rw [e, cell_of_row _ _ _ _ _ _ hb]
  simpa using hi
theorem same_one {W : World} {g h : Nat} {x : Booking} {A B : Option Addr} {cA cB : Nat} (h20 : x.f2.length ≤ 20) (hg : W.heap[g]? = some (.cells #[.int .i64 x.f0, .int .i64 x.f1, .slice A x.f2.length cA] 25 (0, 0))) (hh : W.heap[h]? = some (.cells #[.int .i64 x.f0, .int .i64 x.f1, .slice B x.f2.length cB] 25 (0, 0)))
    (hA : Kd.C k33 W A x.f2.length x.f2) (hcA : x.f2.length ≤ cA) (hB : Kd.C k33 W B x.f2.length x.f2) (hcB : x.f2.length ≤ cB) :
    Calls Try.prog 14 #[.slice (some ⟨g, 0, none⟩) 1 1, .slice (some ⟨h, 0, none⟩) 1 1] W fun e w' => e = .returned (.bool true) ∧ Drawn0 W w' :=
  quartermasterref18_Same.calls 100 (some ⟨g, 0, none⟩) 1 [x] (some ⟨h, 0, none⟩) 1 [x] true W (one_C hg hA hcA) (by simp) (one_C hh hB hcB) (by simp) (same_f (by simp) (fun y hy => by rw [List.mem_singleton.1 hy]; exact h20) (by simp))
end Go.Proofs.Ytjhdjkanepdgiaa.Ask
