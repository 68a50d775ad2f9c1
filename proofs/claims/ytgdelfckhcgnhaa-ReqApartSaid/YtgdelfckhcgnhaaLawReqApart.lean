/- Plain functions, and the walks that show that the Go functions come to them: written by this session's program wip/myprint.py, which runs the kit's print over the translation. No conditions beside those that each contract states. -/
import Derived.Test.YtgdelfckhcgnhaaRows
import Derived.Test.YtgdelfckhcgnhaaPz2
import Derived.Test.YtgdelfckhcgnhaaPureReqApart
import Derived.Test.YtgdelfckhcgnhaaPaq
import Derived.WalkKit
import Derived.ProofKit
import Derived.OpenShut
import Derived.ShutString
import Derived.ChangeOld
import Derived.Below
import Derived.SizedLaws
namespace Go.Proofs.Ytgdelfckhcgnhaa.reqApart
open Go.ChangeShapes Go.WideShapes Go.ChangeAt Go.RowKit
open Go.ChangeMaps (open_string shut_string)
open Go.Proofs.YtgdelfckhcgnhaaW.PrintWords Go.Proofs.Ytgdelfckhcgnhaa.Opens Go.Proofs.Ytgdelfckhcgnhaa.Pa
set_option linter.unusedVariables false
theorem own : ownKnob Try.prog.godebug = none := by kernel_rfl
theorem laidOut : laidOutB Try.prog = true := by kernel_rfl
set_option maxRecDepth 100000 in
set_option maxHeartbeats 1000000 in
theorem lifted (os : Os) (started : os.Started) (H : Type) (enc : TypeId × Value → H) :
    ReturnsInHanded {} Try.checked os 4 .any (Rows.reqApartSpec.pre6 enc Try.prog Try.f4 Rows.reqApartRow.domain false) (Rows.reqApartSpec.post enc Try.prog Try.f4 false true false false) := by
  refine returnsInHanded_of_change_sized (C := Try.checked) own started (by kernel_rfl) Try.func4
    (ChangeSpec.witness6 (enc := enc) (C := Try.checked) false ⟨#[], #[(.agg #[.int .i64 0, .int .i64 0, .int .i64 0, .int .i64 0, .int .i64 0, .int .i64 0, .int .i64 0, .int .i64 0, .int .i64 0, .slice none 0 0]), (.agg #[.int .i64 0, .int .i64 0, .int .i64 0, .int .i64 0, .int .i64 0, .int .i64 0, .int .i64 0, .int .i64 0, .int .i64 0, .slice none 0 0]), (.agg #[.int .i64 0, .int .i64 0, .int .i64 0, .slice none 0 0, .slice none 0 0]), (.agg #[.int .i64 0, .int .i64 0, .int .i64 0, .slice none 0 0, .slice none 0 0])], []⟩ 8 (by kernel_rfl) (by kernel_rfl) (by kernel_rfl) (by kernel_rfl)) ?_
  intro W base args ds gs before hval0 hW hcnd hsz0 _
  have hval : ∀ (j : Nat) t v, Try.f4.params[j]? = some t → args[j]? = some v → Value.okWide Try.prog W .any base t v := hval0
  have hW' := hW
  obtain ⟨p, q, hA0, hV, rfl, hfz, hnd⟩ := hW
  have hA : DataW.TrodAll enc Try.prog W 0 (fun _ => true) true Try.f4.params.toList args.toList ds p := hA0
  rw [Try.params4] at hA hval
  obtain ⟨v0, vs0, d0, ds0, p0, q0, hargs, rfl, rfl, h0, r0⟩ := trodAll_cons hA
  obtain ⟨v1, vs1, d1, ds1, p1, q1, rfl, rfl, rfl, h1, r1⟩ := trodAll_cons r0
  obtain ⟨v2, vs2, d2, ds2, p2, q2, rfl, rfl, rfl, h2, r2⟩ := trodAll_cons r1
  obtain ⟨v3, vs3, d3, ds3, p3, q3, rfl, rfl, rfl, h3, r3⟩ := trodAll_cons r2
  obtain ⟨rfl, rfl, rfl⟩ := trodAll_nil r3
  obtain rfl : args = #[v0, v1, v2, v3] := by cases args; simp_all
  obtain ⟨rfl, rfl⟩ := trodVars_none hV
  have k0 := h0
  have lt0 : ∀ x ∈ p0, x.block < W.heap.size := by obtain ⟨m, hm⟩ := k0; exact DataW.trod_lt m _ _ _ hm
  obtain ⟨cs0, rfl⟩ : ∃ cs, v0 = .agg cs := by
    have h := (hval 0 26 v0 rfl rfl)
    simp only [Value.okWide, Try.underlying26] at h
    obtain ⟨cs, h1, _⟩ := h
    exact ⟨cs, h1⟩
  obtain ⟨x0, hK0, hQ0⟩ := Opens.arg opens_T26 h0
  obtain ⟨A0_9, c0_9, e0, hc0_9, hC0_9⟩ := k26_open hK0
  obtain rfl : cs0 = #[.int .i64 x0.f0, .int .i64 x0.f1, .int .i64 x0.f2, .int .i64 x0.f3, .int .i64 x0.f4, .int .i64 x0.f5, .int .i64 x0.f6, .int .i64 x0.f7, .int .i64 x0.f8, .slice A0_9 x0.f9.length c0_9] := by
    cases cs0
    simpa [Value.cells] using e0
  have hm0_9 := Kd.C_max hC0_9
  have k1 := h1
  have lt1 : ∀ x ∈ p1, x.block < W.heap.size := by obtain ⟨m, hm⟩ := k1; exact DataW.trod_lt m _ _ _ hm
  obtain ⟨cs1, rfl⟩ : ∃ cs, v1 = .agg cs := by
    have h := (hval 1 26 v1 rfl rfl)
    simp only [Value.okWide, Try.underlying26] at h
    obtain ⟨cs, h1, _⟩ := h
    exact ⟨cs, h1⟩
  obtain ⟨x1, hK1, hQ1⟩ := Opens.arg opens_T26 h1
  obtain ⟨A1_9, c1_9, e1, hc1_9, hC1_9⟩ := k26_open hK1
  obtain rfl : cs1 = #[.int .i64 x1.f0, .int .i64 x1.f1, .int .i64 x1.f2, .int .i64 x1.f3, .int .i64 x1.f4, .int .i64 x1.f5, .int .i64 x1.f6, .int .i64 x1.f7, .int .i64 x1.f8, .slice A1_9 x1.f9.length c1_9] := by
    cases cs1
    simpa [Value.cells] using e1
  have hm1_9 := Kd.C_max hC1_9
  have k2 := h2
  have lt2 : ∀ x ∈ p2, x.block < W.heap.size := by obtain ⟨m, hm⟩ := k2; exact DataW.trod_lt m _ _ _ hm
  obtain ⟨cs2, rfl⟩ : ∃ cs, v2 = .agg cs := by
    have h := (hval 2 38 v2 rfl rfl)
    simp only [Value.okWide, Try.underlying38] at h
    obtain ⟨cs, h1, _⟩ := h
    exact ⟨cs, h1⟩
  obtain ⟨x2, hK2, hQ2⟩ := Opens.arg opens_T38 h2
  obtain ⟨A2_3, c2_3, A2_4, c2_4, e2, hc2_3, hC2_3, hc2_4, hC2_4⟩ := k38_open hK2
  obtain rfl : cs2 = #[.int .i64 x2.f0, .int .i64 x2.f1, .int .i64 x2.f2, .slice A2_3 x2.f3.length c2_3, .slice A2_4 x2.f4.length c2_4] := by
    cases cs2
    simpa [Value.cells] using e2
  have hm2_3 := Kd.C_max hC2_3
  have hm2_4 := Kd.C_max hC2_4
  have k3 := h3
  have lt3 : ∀ x ∈ p3, x.block < W.heap.size := by obtain ⟨m, hm⟩ := k3; exact DataW.trod_lt m _ _ _ hm
  obtain ⟨cs3, rfl⟩ : ∃ cs, v3 = .agg cs := by
    have h := (hval 3 38 v3 rfl rfl)
    simp only [Value.okWide, Try.underlying38] at h
    obtain ⟨cs, h1, _⟩ := h
    exact ⟨cs, h1⟩
  obtain ⟨x3, hK3, hQ3⟩ := Opens.arg opens_T38 h3
  obtain ⟨A3_3, c3_3, A3_4, c3_4, e3, hc3_3, hC3_3, hc3_4, hC3_4⟩ := k38_open hK3
  obtain rfl : cs3 = #[.int .i64 x3.f0, .int .i64 x3.f1, .int .i64 x3.f2, .slice A3_3 x3.f3.length c3_3, .slice A3_4 x3.f4.length c3_4] := by
    cases cs3
    simpa [Value.cells] using e3
  have hm3_3 := Kd.C_max hC3_3
  have hm3_4 := Kd.C_max hC3_4
  clear hA0 hval0 hsz0
  obtain ⟨k, h⟩ := Pure.ReqApart x0.f0 x0.f1 x0.f2 x0.f3 x0.f4 x0.f5 x0.f6 x0.f7 x0.f8 x0.f9 x1.f0 x1.f1 x1.f2 x1.f3 x1.f4 x1.f5 x1.f6 x1.f7 x1.f8 x1.f9 x2.f0 x2.f1 x2.f2 x2.f3 x2.f4 x3.f0 x3.f1 x3.f2 x3.f3 x3.f4 hQ0.1 hQ0.2.1 hQ0.2.2.1 hQ0.2.2.2.1 hQ0.2.2.2.2.1 hQ0.2.2.2.2.2.1 hQ0.2.2.2.2.2.2.1 hQ0.2.2.2.2.2.2.2.1 hQ0.2.2.2.2.2.2.2.2.1 hm0_9 hQ0.2.2.2.2.2.2.2.2.2 hQ1.1 hQ1.2.1 hQ1.2.2.1 hQ1.2.2.2.1 hQ1.2.2.2.2.1 hQ1.2.2.2.2.2.1 hQ1.2.2.2.2.2.2.1 hQ1.2.2.2.2.2.2.2.1 hQ1.2.2.2.2.2.2.2.2.1 hm1_9 hQ1.2.2.2.2.2.2.2.2.2 hQ2.1 hQ2.2.1 hQ2.2.2.1 hm2_3 hQ2.2.2.2.1 hm2_4 hQ2.2.2.2.2 hQ3.1 hQ3.2.1 hQ3.2.2.1 hm3_3 hQ3.2.2.2.1 hm3_4 hQ3.2.2.2.2
  refine (Pz.quartermasterlaw21_ReqApart.calls k x0.f0 x0.f1 x0.f2 x0.f3 x0.f4 x0.f5 x0.f6 x0.f7 x0.f8 A0_9 c0_9 x0.f9 x1.f0 x1.f1 x1.f2 x1.f3 x1.f4 x1.f5 x1.f6 x1.f7 x1.f8 A1_9 c1_9 x1.f9 x2.f0 x2.f1 x2.f2 A2_3 c2_3 x2.f3 A2_4 c2_4 x2.f4 x3.f0 x3.f1 x3.f2 A3_3 c3_3 x3.f3 A3_4 c3_4 x3.f4 true W hC0_9 hc0_9 hC1_9 hc1_9 hC2_3 hc2_3 hC2_4 hc2_4 hC3_3 hc3_3 hC3_4 hc3_4 h).mono fun e W' ⟨he, bel0⟩ => ?_
  have bel : Below W.heap.size W W' := bel0
  subst he
  exact ⟨_, rfl, _, _, _, [], _, [], hW', trodAll_mk1 (shut_bool Try.underlying4 _), (trodAll_cons_mk (Below.trod laidOut (by kernel_rfl) (of_decide_eq_true (by kernel_rfl)) k0 bel lt0) (trodAll_cons_mk (Below.trod laidOut (by kernel_rfl) (of_decide_eq_true (by kernel_rfl)) k1 bel lt1) (trodAll_cons_mk (Below.trod laidOut (by kernel_rfl) (of_decide_eq_true (by kernel_rfl)) k2 bel lt2) (trodAll_cons_mk (Below.trod laidOut (by kernel_rfl) (of_decide_eq_true (by kernel_rfl)) k3 bel lt3) trodAll_mk0)))), rfl, bel.frame _, fun h => by cases h⟩
theorem over : Rows.reqApartRow.holds Try.pinned (OpenSpec.ofChange Rows.reqApartSpec) :=
  OpenClaim.holds_of_wide 4 Try.f4 rfl rfl rfl rfl rfl rfl rfl ⟨rfl, rfl, rfl, rfl, rfl⟩ rfl rfl rfl rfl rfl (by kernel_rfl) Try.func4 (by kernel_rfl)
    (of_decide_eq_true (by kernel_rfl)) (by unfold Func.isWrapper; first | (rw [if_pos (by decide +kernel)]; kernel_rfl) | (rw [if_neg (by decide +kernel)]; exact ⟨rfl, rfl⟩))
    (fun os started H enc _ => lifted os started H enc)
theorem proved : Rows.ReqApartSaid := over
#print axioms proved
end Go.Proofs.Ytgdelfckhcgnhaa.reqApart
namespace Go.Proofs.Ytgdelfckhcgnhaa
/-- The row, under a short name, for the claim. -/
theorem reqApart_holds : Rows.ReqApartSaid := reqApart.proved
end Go.Proofs.Ytgdelfckhcgnhaa
