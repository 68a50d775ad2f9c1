/- Plain functions, and the walks that show that the Go functions come to them: written by this session's program wip/myprint.py, which runs the kit's print over the translation. No conditions beside those that each contract states. -/
import Derived.Test.YtnpkndbhchmedaaRows
import Derived.Test.YtnpkndbhchmedaaPx1
import Derived.Test.YtnpkndbhchmedaaPureBlockSeals
import Derived.Test.YtnpkndbhchmedaaPaq
import Derived.WalkKit
import Derived.ProofKit
import Derived.OpenShut
import Derived.ShutString
import Derived.ChangeOld
import Derived.Below
import Derived.SizedLaws
namespace Go.Proofs.Ytnpkndbhchmedaa.blockSeals
open Go.ChangeShapes Go.WideShapes Go.ChangeAt Go.RowKit
open Go.ChangeMaps (open_string shut_string)
open Go.Proofs.YtnpkndbhchmedaaW.PrintWords Go.Proofs.Ytnpkndbhchmedaa.Opens Go.Proofs.Ytnpkndbhchmedaa.Pa
set_option linter.unusedVariables false
theorem own : ownKnob Try.prog.godebug = none := by kernel_rfl
theorem laidOut : laidOutB Try.prog = true := by kernel_rfl
set_option maxRecDepth 100000 in
set_option maxHeartbeats 1000000 in
theorem lifted (os : Os) (started : os.Started) (H : Type) (enc : TypeId × Value → H) :
    ReturnsInHanded {} Try.checked os 4 .any (Rows.blockSealsSpec.pre6 enc Try.prog Try.f4 Rows.blockSealsRow.domain false) (Rows.blockSealsSpec.post enc Try.prog Try.f4 false true false false) := by
  refine returnsInHanded_of_change_sized (C := Try.checked) own started (by kernel_rfl) Try.func4
    (ChangeSpec.witness6 (enc := enc) (C := Try.checked) false ⟨#[], #[(.agg #[.int .i64 0, .int .i64 0, .int .i64 0, .int .i64 0, .int .i64 0, .slice none 0 0])], []⟩ 8 (by kernel_rfl) (by kernel_rfl) (by kernel_rfl) (by kernel_rfl)) ?_
  intro W base args ds gs before hval0 hW hcnd hsz0 _
  have hval : ∀ (j : Nat) t v, Try.f4.params[j]? = some t → args[j]? = some v → Value.okWide Try.prog W .any base t v := hval0
  have hW' := hW
  obtain ⟨p, q, hA0, hV, rfl, hfz, hnd⟩ := hW
  have hA : DataW.TrodAll enc Try.prog W 0 (fun _ => true) true Try.f4.params.toList args.toList ds p := hA0
  rw [Try.params4] at hA hval
  obtain ⟨v0, vs0, d0, ds0, p0, q0, hargs, rfl, rfl, h0, r0⟩ := trodAll_cons hA
  obtain ⟨rfl, rfl, rfl⟩ := trodAll_nil r0
  obtain rfl : args = #[v0] := by cases args; simp_all
  obtain ⟨rfl, rfl⟩ := trodVars_none hV
  have k0 := h0
  have lt0 : ∀ x ∈ p0, x.block < W.heap.size := by obtain ⟨m, hm⟩ := k0; exact DataW.trod_lt m _ _ _ hm
  obtain ⟨cs0, rfl⟩ : ∃ cs, v0 = .agg cs := by
    have h := (hval 0 24 v0 rfl rfl)
    simp only [Value.okWide, Try.underlying24] at h
    obtain ⟨cs, h1, _⟩ := h
    exact ⟨cs, h1⟩
  obtain ⟨x0, hK0, hQ0⟩ := Opens.arg opens_T24 h0
  obtain ⟨A0_5, c0_5, e0, hc0_5, hC0_5⟩ := k24_open hK0
  obtain rfl : cs0 = #[.int .i64 x0.f0, .int .i64 x0.f1, .int .i64 x0.f2, .int .i64 x0.f3, .int .i64 x0.f4, .slice A0_5 x0.f5.length c0_5] := by
    cases cs0
    simpa [Value.cells] using e0
  have hm0_5 := Kd.C_max hC0_5
  clear hA0 hval0 hsz0
  obtain ⟨k, h⟩ := Pure.BlockSeals x0.f0 x0.f1 x0.f2 x0.f3 x0.f4 x0.f5 hQ0.1 hQ0.2.1 hQ0.2.2.1 hQ0.2.2.2.1 hQ0.2.2.2.2.1 hm0_5 hQ0.2.2.2.2.2
  refine (Px.quartermasterlaw07_BlockSeals.calls k x0.f0 x0.f1 x0.f2 x0.f3 x0.f4 A0_5 c0_5 x0.f5 true W hC0_5 hc0_5 h).mono fun e W' ⟨he, bel0⟩ => ?_
  have bel : Below W.heap.size W W' := bel0
  subst he
  exact ⟨_, rfl, _, _, _, [], _, [], hW', trodAll_mk1 (shut_bool Try.underlying4 _), (trodAll_cons_mk (Below.trod laidOut (by kernel_rfl) (of_decide_eq_true (by kernel_rfl)) k0 bel lt0) trodAll_mk0), rfl, bel.frame _, fun h => by cases h⟩
theorem over : Rows.blockSealsRow.holds Try.pinned (OpenSpec.ofChange Rows.blockSealsSpec) :=
  OpenClaim.holds_of_wide 4 Try.f4 rfl rfl rfl rfl rfl rfl rfl ⟨rfl, rfl, rfl, rfl, rfl⟩ rfl rfl rfl rfl rfl (by kernel_rfl) Try.func4 (by kernel_rfl)
    (of_decide_eq_true (by kernel_rfl)) (by unfold Func.isWrapper; first | (rw [if_pos (by decide +kernel)]; kernel_rfl) | (rw [if_neg (by decide +kernel)]; exact ⟨rfl, rfl⟩))
    (fun os started H enc _ => lifted os started H enc)
theorem proved : Rows.BlockSealsSaid := over
#print axioms proved
end Go.Proofs.Ytnpkndbhchmedaa.blockSeals
namespace Go.Proofs.Ytnpkndbhchmedaa
/-- The row, under a short name, for the claim. -/
theorem blockSeals_holds : Rows.BlockSealsSaid := blockSeals.proved
end Go.Proofs.Ytnpkndbhchmedaa
