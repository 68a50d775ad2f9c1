/- The chapter's example of the queue comes to true. No conditions. -/
import Derived.Test.YtghgjjpddemjkaaDueSit
namespace Go.Proofs.Ytghgjjpddemjkaa.Due
open Go.RowKit Go.Proofs.Ytghgjjpddemjkaa.Pa Go.Proofs.YtghgjjpddemjkaaW.PrintWords Go.Proofs.YtghgjjpddemjkaaW.PrintLast Go.Proofs.YtghgjjpddemjkaaW.PrintMore
set_option linter.unusedVariables false

set_option maxRecDepth 100000 in
set_option maxHeartbeats 8000000 in
theorem awake_any (w : World) : Calls Try.prog 8 #[] w fun e w' => e = .returned (.bool true) ∧ Below w.heap.size w w' := by
  have s0 := (Sit.refl w).fresh
  have p1 := sit_put ⟨5, 1⟩ s0 (by simp)
  have S0 := Aside0.mk s0
  clear s0
  go_enter Try.func8, Try.ntmps8
  go_wp2_with fail
  go_at_call 9
  refine p1.mono ?_
  rintro e w1 ⟨rfl, hs⟩
  have p2 := sit_put ⟨3, 9⟩ hs (by simp [ins])
  clear p1 hs S0
  go_wp2_with fail
  go_at_call 9
  refine p2.mono ?_
  rintro e w2 ⟨rfl, hs⟩
  have p3 := sit_put ⟨5, 0⟩ hs (by simp [ins, lt])
  clear p2 hs
  go_wp2_with fail
  go_at_call 9
  refine p3.mono ?_
  rintro e w3 ⟨rfl, hs⟩
  have e3 : ins ⟨5, 0⟩ (ins ⟨3, 9⟩ (ins ⟨5, 1⟩ [])) = [⟨3, 9⟩, ⟨5, 0⟩, ⟨5, 1⟩] := rfl
  rw [e3] at hs
  clear p3 e3
  have p4 := sit_take_some 4 hs (by decide) (by simp)
  clear hs
  go_wp2_with fail
  go_at_call 10
  refine p4.mono ?_
  rintro e w4 ⟨rfl, hs⟩
  have hs4 := hs.alloc #[.int .i64 3, .int .i64 9] 30
  have p5 := sit_take_none 4 hs4.swap (by intro m t h; injection h with h _; subst h; decide)
  clear p4 hs hs4
  go_wp2_with fail
  go_at_call 10
  refine p5.mono ?_
  rintro e w5 ⟨rfl, hs⟩
  have hs5 := hs.alloc #[.int .i64 0, .int .i64 0] 30
  have p6 := sit_take_some 5 hs5.swap (by decide) (by simp)
  clear p5 hs hs5
  go_wp2_with fail
  go_at_call 10
  refine p6.mono ?_
  rintro e w6 ⟨rfl, hs⟩
  have hs6 := hs.alloc #[.int .i64 5, .int .i64 0] 30
  have p7 := sit_len hs6.swap
  obtain ⟨c0, c1, _, _, hc⟩ := hs.rot.blk2
  have HS := Aside0.mk hs6
  clear p6 hs hs6
  go_wp2_with fail
  refine p7.mono ?_
  rintro e w7 ⟨rfl, rfl⟩
  clear p7
  go_wp2
  go_ret
  exact ⟨rfl, HS.out.below⟩
end Go.Proofs.Ytghgjjpddemjkaa.Due
