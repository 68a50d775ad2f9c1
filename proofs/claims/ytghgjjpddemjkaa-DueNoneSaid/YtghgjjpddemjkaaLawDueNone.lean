/- Plain functions, and the walks that show that the Go functions come to them: written by this session's program wip/myprint.py, which runs the kit's print over the translation. No conditions beside those that each contract states. -/
import Derived.Test.YtghgjjpddemjkaaRows
import Derived.Test.YtghgjjpddemjkaaDueNone
import Derived.Test.YtghgjjpddemjkaaPaq
import Derived.WalkKit
import Derived.ProofKit
import Derived.OpenShut
import Derived.ShutString
import Derived.ChangeOld
import Derived.Below
import Derived.SizedLaws
namespace Go.Proofs.Ytghgjjpddemjkaa.dueNone
open Go.ChangeShapes Go.WideShapes Go.ChangeAt Go.RowKit
open Go.ChangeMaps (open_string shut_string)
open Go.Proofs.YtghgjjpddemjkaaW.PrintWords Go.Proofs.Ytghgjjpddemjkaa.Opens Go.Proofs.Ytghgjjpddemjkaa.Pa
set_option linter.unusedVariables false
theorem own : ownKnob Try.prog.godebug = none := by kernel_rfl
theorem laidOut : laidOutB Try.prog = true := by kernel_rfl
set_option maxRecDepth 100000 in
set_option maxHeartbeats 1000000 in
theorem lifted (os : Os) (started : os.Started) (H : Type) (enc : TypeId × Value → H) :
    ReturnsInHanded {} Try.checked os 7 .any (Rows.dueNoneSpec.pre6 enc Try.prog Try.f7 Rows.dueNoneRow.domain false) (Rows.dueNoneSpec.post enc Try.prog Try.f7 false true false false) := by
  refine returnsInHanded_of_change_sized (C := Try.checked) own started (by kernel_rfl) Try.func7
    (ChangeSpec.witness6 (enc := enc) (C := Try.checked) false ⟨#[], #[(.agg #[.int .i64 0, .int .i64 0])], []⟩ 8 (by kernel_rfl) (by kernel_rfl) (by kernel_rfl) (by kernel_rfl)) ?_
  intro W base args ds gs before hval0 hW hcnd hsz0 _
  have hval : ∀ (j : Nat) t v, Try.f7.params[j]? = some t → args[j]? = some v → Value.okWide Try.prog W .any base t v := hval0
  have hW' := hW
  obtain ⟨p, q, hA0, hV, rfl, hfz, hnd⟩ := hW
  have hA : DataW.TrodAll enc Try.prog W 0 (fun _ => true) true Try.f7.params.toList args.toList ds p := hA0
  rw [Try.params7] at hA hval
  obtain ⟨v0, vs0, d0, ds0, p0, q0, hargs, rfl, rfl, h0, r0⟩ := trodAll_cons hA
  obtain ⟨rfl, rfl, rfl⟩ := trodAll_nil r0
  obtain rfl : args = #[v0] := by cases args; simp_all
  obtain ⟨rfl, rfl⟩ := trodVars_none hV
  have k0 := h0
  have lt0 : ∀ x ∈ p0, x.block < W.heap.size := by obtain ⟨m, hm⟩ := k0; exact DataW.trod_lt m _ _ _ hm
  obtain ⟨cs0, rfl⟩ : ∃ cs, v0 = .agg cs := by
    have h := (hval 0 30 v0 rfl rfl)
    simp only [Value.okWide, Try.underlying30] at h
    obtain ⟨cs, h1, _⟩ := h
    exact ⟨cs, h1⟩
  obtain ⟨x0, hK0, hQ0⟩ := Opens.arg opens_T30 h0
  obtain e0 := k30_open hK0
  obtain rfl : cs0 = #[.int .i64 x0.f0, .int .i64 x0.f1] := by
    cases cs0
    simpa [Value.cells] using e0
  clear hA0 hval0 hsz0
  refine (Go.Proofs.Ytghgjjpddemjkaa.Due.dueNone_calls x0.f0 x0.f1 W hQ0.1 hQ0.2 ).mono fun e W' ⟨he, bel0⟩ => ?_
  have bel : Below W.heap.size W W' := bel0
  subst he
  exact ⟨_, rfl, _, _, _, [], _, [], hW', trodAll_mk1 (shut_bool Try.underlying4 _), (trodAll_cons_mk (Below.trod laidOut (by kernel_rfl) (of_decide_eq_true (by kernel_rfl)) k0 bel lt0) trodAll_mk0), rfl, bel.frame _, fun h => by cases h⟩
theorem over : Rows.dueNoneRow.holds Try.pinned (OpenSpec.ofChange Rows.dueNoneSpec) :=
  OpenClaim.holds_of_wide 7 Try.f7 rfl rfl rfl rfl rfl rfl rfl ⟨rfl, rfl, rfl, rfl, rfl⟩ rfl rfl rfl rfl rfl (by kernel_rfl) Try.func7 (by kernel_rfl)
    (of_decide_eq_true (by kernel_rfl)) (by unfold Func.isWrapper; first | (rw [if_pos (by decide +kernel)]; kernel_rfl) | (rw [if_neg (by decide +kernel)]; exact ⟨rfl, rfl⟩))
    (fun os started H enc _ => lifted os started H enc)
theorem proved : Rows.DueNoneSaid := over
#print axioms proved
end Go.Proofs.Ytghgjjpddemjkaa.dueNone
namespace Go.Proofs.Ytghgjjpddemjkaa
/-- The row, under a short name, for the claim. -/
theorem dueNone_holds : Rows.DueNoneSaid := dueNone.proved
end Go.Proofs.Ytghgjjpddemjkaa
