/- A nil queue has nothing, and takes nothing (DueNoneSaid): the walk. No conditions. -/
import Derived.Test.YtghgjjpddemjkaaDueAwake
namespace Go.Proofs.Ytghgjjpddemjkaa.Due
open Go.RowKit Go.Proofs.Ytghgjjpddemjkaa.Pa Go.Proofs.YtghgjjpddemjkaaW.PrintWords Go.Proofs.YtghgjjpddemjkaaW.PrintLast Go.Proofs.YtghgjjpddemjkaaW.PrintMore
set_option linter.unusedVariables false

set_option maxRecDepth 100000 in
set_option maxHeartbeats 8000000 in
theorem dueNone_any (a b : Int) (w : World) : Calls Try.prog 7 #[.agg #[.int .i64 a, .int .i64 b]] w fun e w' => e = .returned (.bool true) ∧ Below w.heap.size w w' := by
  have s0 := (Sit.refl w).alloc #[.int .i64 a, .int .i64 b] 30
  have p1 := awake_any (w.alloc (.cells #[.int .i64 a, .int .i64 b] 30))
  go_enter Try.func7, Try.ntmps7
  go_wp2_with fail
  go_at_call 8
  refine p1.mono ?_
  rintro e w1 ⟨rfl, hb⟩
  have s1 := s0.behind hb
  obtain ⟨c0, c1, _, _, hc⟩ := s1.blk2
  clear s0 p1 hb
  go_wp2_with fail
  go_at_call 9
  refine (qput_nil ⟨a, b⟩ w1).mono ?_
  rintro e w2 ⟨rfl, hb⟩
  have s2 := s1.behind hb
  clear s1 hb c0 c1 hc
  obtain ⟨c0, c1, _, _, hc⟩ := s2.blk2
  go_wp2_with fail
  go_at_call 12
  refine (qfirst_nil w2).mono ?_
  rintro e w3 ⟨rfl, hb⟩
  have s3 := s2.behind hb
  clear s2 hb c0 c1 hc
  obtain ⟨c0, c1, _, _, hc⟩ := s3.blk2
  go_wp2_with fail
  go_at_call 10
  refine (qtake_nil a _).mono ?_
  rintro e w4 ⟨rfl, hb⟩
  have s4 := (s3.alloc #[.int .i64 0, .int .i64 0] 30).behind hb
  clear s3 hb c0 c1 hc
  obtain ⟨c0, c1, _, _, hc⟩ := s4.swap.blk2
  obtain ⟨d0, d1, _, _, hd⟩ := s4.blk2
  have S4 := Aside0.mk s4
  clear s4
  go_wp2_with fail
  go_at_call 15
  refine (qdrop_nil b _).mono ?_
  rintro e w5 ⟨rfl, hb⟩
  have HB := Aside0.mk hb
  clear hb c0 c1 hc d0 d1 hd
  go_wp2_with fail
  go_at_call 11
  refine (qlen_nil _).mono ?_
  rintro e w6 ⟨rfl, rfl⟩
  go_wp2
  go_ret
  exact ⟨rfl, ((S4.out.skip _).behind HB.out).below⟩
theorem dueNone_calls (a0_0 a0_1 : Int) (w : World) (h0 : (Lit.int .i64 a0_0).wf = true) (h1 : (Lit.int .i64 a0_1).wf = true) : Calls Try.prog 7 #[.agg #[.int .i64 a0_0, .int .i64 a0_1]] w fun e w' => e = .returned (.bool true) ∧ Below w.heap.size w w' := dueNone_any a0_0 a0_1 w
end Go.Proofs.Ytghgjjpddemjkaa.Due
