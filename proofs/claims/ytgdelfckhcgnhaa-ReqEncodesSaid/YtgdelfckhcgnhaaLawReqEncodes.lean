/- Plain functions, and the walks that show that the Go functions come to them: written by this session's program wip/myprint.py, which runs the kit's print over the translation. No conditions beside those that each contract states. -/
import Derived.Test.YtgdelfckhcgnhaaRows
import Derived.Test.YtgdelfckhcgnhaaPw3
import Derived.Test.YtgdelfckhcgnhaaPureReqEncodes
import Derived.Test.YtgdelfckhcgnhaaPaq
import Derived.WalkKit
import Derived.ProofKit
import Derived.OpenShut
import Derived.ShutString
import Derived.ChangeOld
import Derived.Below
import Derived.SizedLaws
namespace Go.Proofs.Ytgdelfckhcgnhaa.reqEncodes
open Go.ChangeShapes Go.WideShapes Go.ChangeAt Go.RowKit
open Go.ChangeMaps (open_string shut_string)
open Go.Proofs.YtgdelfckhcgnhaaW.PrintWords Go.Proofs.Ytgdelfckhcgnhaa.Opens Go.Proofs.Ytgdelfckhcgnhaa.Pa
set_option linter.unusedVariables false
theorem own : ownKnob Try.prog.godebug = none := by kernel_rfl
theorem laidOut : laidOutB Try.prog = true := by kernel_rfl
set_option maxRecDepth 100000 in
set_option maxHeartbeats 1000000 in
theorem lifted (os : Os) (started : os.Started) (H : Type) (enc : TypeId × Value → H) :
    ReturnsInHanded {} Try.checked os 5 .any (Rows.reqEncodesSpec.pre6 enc Try.prog Try.f5 Rows.reqEncodesRow.domain false) (Rows.reqEncodesSpec.post enc Try.prog Try.f5 false true false false) := by
  refine returnsInHanded_of_change_sized (C := Try.checked) own started (by kernel_rfl) Try.func5
    (ChangeSpec.witness6 (enc := enc) (C := Try.checked) false ⟨#[], #[(.agg #[.int .i64 0, .int .i64 0, .int .i64 0, .int .i64 0, .int .i64 0, .int .i64 0, .int .i64 0, .int .i64 0, .int .i64 0, .slice none 0 0]), (.agg #[.int .i64 0, .int .i64 0, .int .i64 0, .slice none 0 0, .slice none 0 0])], []⟩ 8 (by kernel_rfl) (by kernel_rfl) (by kernel_rfl) (by kernel_rfl)) ?_
  intro W base args ds gs before hval0 hW hcnd hsz0 _
  have hval : ∀ (j : Nat) t v, Try.f5.params[j]? = some t → args[j]? = some v → Value.okWide Try.prog W .any base t v := hval0
  have hW' := hW
  obtain ⟨p, q, hA0, hV, rfl, hfz, hnd⟩ := hW
  have hA : DataW.TrodAll enc Try.prog W 0 (fun _ => true) true Try.f5.params.toList args.toList ds p := hA0
  rw [Try.params5] at hA hval
  obtain ⟨v0, vs0, d0, ds0, p0, q0, hargs, rfl, rfl, h0, r0⟩ := trodAll_cons hA
  obtain ⟨v1, vs1, d1, ds1, p1, q1, rfl, rfl, rfl, h1, r1⟩ := trodAll_cons r0
  obtain ⟨rfl, rfl, rfl⟩ := trodAll_nil r1
  obtain rfl : args = #[v0, v1] := by cases args; simp_all
  obtain ⟨rfl, rfl⟩ := trodVars_none hV
  have k0 := h0
  have lt0 : ∀ x ∈ p0, x.block < W.heap.size := by obtain ⟨m, hm⟩ := k0; exact DataW.trod_lt m _ _ _ hm
  obtain ⟨cs0, rfl⟩ : ∃ cs, v0 = .agg cs := by
    have h := (hval 0 26 v0 rfl rfl)
    simp only [Value.okWide, Try.underlying26] at h
    obtain ⟨cs, h1, _⟩ := h
    exact ⟨cs, h1⟩
  obtain ⟨x0, hK0, hQ0⟩ := Opens.arg opens_T26 h0
  obtain ⟨A0_9, c0_9, e0, hc0_9, hC0_9⟩ := k26_open hK0
  obtain rfl : cs0 = #[.int .i64 x0.f0, .int .i64 x0.f1, .int .i64 x0.f2, .int .i64 x0.f3, .int .i64 x0.f4, .int .i64 x0.f5, .int .i64 x0.f6, .int .i64 x0.f7, .int .i64 x0.f8, .slice A0_9 x0.f9.length c0_9] := by
    cases cs0
    simpa [Value.cells] using e0
  have hm0_9 := Kd.C_max hC0_9
  have k1 := h1
  have lt1 : ∀ x ∈ p1, x.block < W.heap.size := by obtain ⟨m, hm⟩ := k1; exact DataW.trod_lt m _ _ _ hm
  obtain ⟨cs1, rfl⟩ : ∃ cs, v1 = .agg cs := by
    have h := (hval 1 38 v1 rfl rfl)
    simp only [Value.okWide, Try.underlying38] at h
    obtain ⟨cs, h1, _⟩ := h
    exact ⟨cs, h1⟩
  obtain ⟨x1, hK1, hQ1⟩ := Opens.arg opens_T38 h1
  obtain ⟨A1_3, c1_3, A1_4, c1_4, e1, hc1_3, hC1_3, hc1_4, hC1_4⟩ := k38_open hK1
  obtain rfl : cs1 = #[.int .i64 x1.f0, .int .i64 x1.f1, .int .i64 x1.f2, .slice A1_3 x1.f3.length c1_3, .slice A1_4 x1.f4.length c1_4] := by
    cases cs1
    simpa [Value.cells] using e1
  have hm1_3 := Kd.C_max hC1_3
  have hm1_4 := Kd.C_max hC1_4
  clear hA0 hval0 hsz0
  obtain ⟨k, h⟩ := Pure.ReqEncodes x0.f0 x0.f1 x0.f2 x0.f3 x0.f4 x0.f5 x0.f6 x0.f7 x0.f8 x0.f9 x1.f0 x1.f1 x1.f2 x1.f3 x1.f4 hQ0.1 hQ0.2.1 hQ0.2.2.1 hQ0.2.2.2.1 hQ0.2.2.2.2.1 hQ0.2.2.2.2.2.1 hQ0.2.2.2.2.2.2.1 hQ0.2.2.2.2.2.2.2.1 hQ0.2.2.2.2.2.2.2.2.1 hm0_9 hQ0.2.2.2.2.2.2.2.2.2 hQ1.1 hQ1.2.1 hQ1.2.2.1 hm1_3 hQ1.2.2.2.1 hm1_4 hQ1.2.2.2.2
  refine (Pw.quartermasterlaw21_ReqEncodes.calls k x0.f0 x0.f1 x0.f2 x0.f3 x0.f4 x0.f5 x0.f6 x0.f7 x0.f8 A0_9 c0_9 x0.f9 x1.f0 x1.f1 x1.f2 A1_3 c1_3 x1.f3 A1_4 c1_4 x1.f4 true W hC0_9 hc0_9 hC1_3 hc1_3 hC1_4 hc1_4 h).mono fun e W' ⟨he, bel0⟩ => ?_
  have bel : Below W.heap.size W W' := bel0
  subst he
  exact ⟨_, rfl, _, _, _, [], _, [], hW', trodAll_mk1 (shut_bool Try.underlying4 _), (trodAll_cons_mk (Below.trod laidOut (by kernel_rfl) (of_decide_eq_true (by kernel_rfl)) k0 bel lt0) (trodAll_cons_mk (Below.trod laidOut (by kernel_rfl) (of_decide_eq_true (by kernel_rfl)) k1 bel lt1) trodAll_mk0)), rfl, bel.frame _, fun h => by cases h⟩
theorem over : Rows.reqEncodesRow.holds Try.pinned (OpenSpec.ofChange Rows.reqEncodesSpec) :=
  OpenClaim.holds_of_wide 5 Try.f5 rfl rfl rfl rfl rfl rfl rfl ⟨rfl, rfl, rfl, rfl, rfl⟩ rfl rfl rfl rfl rfl (by kernel_rfl) Try.func5 (by kernel_rfl)
    (of_decide_eq_true (by kernel_rfl)) (by unfold Func.isWrapper; first | (rw [if_pos (by decide +kernel)]; kernel_rfl) | (rw [if_neg (by decide +kernel)]; exact ⟨rfl, rfl⟩))
    (fun os started H enc _ => lifted os started H enc)
theorem proved : Rows.ReqEncodesSaid := over
#print axioms proved
end Go.Proofs.Ytgdelfckhcgnhaa.reqEncodes
namespace Go.Proofs.Ytgdelfckhcgnhaa
/-- The row, under a short name, for the claim. -/
theorem reqEncodes_holds : Rows.ReqEncodesSaid := reqEncodes.proved
end Go.Proofs.Ytgdelfckhcgnhaa
