/- If up to 4 bytes in a row of a block's sector are changed, or it is all noughts, it is Garbage, whatever is wanted (BlockFewSaid). -/
import Derived.Test.YtnpkndbhchmedaaRows
import Derived.Test.YtnpkndbhchmedaaFewWalk
import Derived.Test.YtnpkndbhchmedaaPaq
import Derived.WalkKit
import Derived.ProofKit
import Derived.OpenShut
import Derived.ShutString
import Derived.ChangeOld
import Derived.Below
import Derived.SizedLaws
namespace Go.Proofs.Ytnpkndbhchmedaa.blockFew
open Go.ChangeShapes Go.WideShapes Go.ChangeAt Go.RowKit
open Go.ChangeMaps (open_string shut_string)
open Go.Proofs.YtnpkndbhchmedaaW.PrintWords Go.Proofs.Ytnpkndbhchmedaa.Opens Go.Proofs.Ytnpkndbhchmedaa.Pa
set_option linter.unusedVariables false
theorem own : ownKnob Try.prog.godebug = none := by kernel_rfl
theorem laidOut : laidOutB Try.prog = true := by kernel_rfl
theorem walk (a0_0 a0_1 a0_2 a0_3 a0_4 : Int) (A0_5 : Option Addr) (c0_5 : Nat) (l0_5 : List Int) (at_ : Int) (b0 b1 b2 b3 : Int) (a1_0 a1_1 a1_2 a1_3 a1_4 : Int) (A1_5 : Option Addr) (c1_5 : Nat) (l1_5 : List Int) (w : World) (hr0_5 : Kd.C (Kd.int .u8) w A0_5 l0_5.length l0_5) (hc0_5 : l0_5.length ≤ c0_5) (hr1_5 : Kd.C (Kd.int .u8) w A1_5 l1_5.length l1_5) (hc1_5 : l1_5.length ≤ c1_5) (hw : ∀ x ∈ l0_5, (Lit.int .u8 x).wf = true) (hy : ∀ x ∈ [b0, b1, b2, b3], (Lit.int .u8 x).wf = true) :
    Calls Try.prog 6 #[.agg #[.int .i64 a0_0, .int .i64 a0_1, .int .i64 a0_2, .int .i64 a0_3, .int .i64 a0_4, .slice A0_5 l0_5.length c0_5], .int .i64 at_, .agg #[.int .u8 b0, .int .u8 b1, .int .u8 b2, .int .u8 b3], .agg #[.int .i64 a1_0, .int .i64 a1_1, .int .i64 a1_2, .int .i64 a1_3, .int .i64 a1_4, .slice A1_5 l1_5.length c1_5]] w fun e w' => e = .returned (.bool true) ∧ Below w.heap.size w w' := by
  have ho := Pure.okB_wf hw
  have hy' := Pure.okB_wf hy
  by_cases hat : at_ < 0 ∨ 252 < at_
  · exact Few.few_out a0_0 a0_1 a0_2 a0_3 a0_4 A0_5 c0_5 l0_5 at_ b0 b1 b2 b3 a1_0 a1_1 a1_2 a1_3 a1_4 A1_5 c1_5 l1_5 w hr0_5 hc0_5 hr1_5 hc1_5 ho hat
  · obtain ⟨p, rfl⟩ : ∃ p : Nat, at_ = (p : Int) := ⟨at_.toNat, by omega⟩
    exact Few.calls_few a0_0 a0_1 a0_2 a0_3 a0_4 A0_5 c0_5 l0_5 p b0 b1 b2 b3 a1_0 a1_1 a1_2 a1_3 a1_4 A1_5 c1_5 l1_5 w hr0_5 hc0_5 hr1_5 hc1_5 ho hy' (by omega)
theorem four_bytes {n : Nat} {t e : TypeId} {H : Type} {enc : TypeId × Value → H} {W : World} {base : Nat} {spare : Nat → Bool} {held : Bool} {fuel : Nat} {l : List Value} {x : DataW H × List MemPlace} (hn : n = 4)
    (ht : Try.prog.underlying t = some (.array n e)) (he : Try.prog.underlying e = some (.int .u8)) (hc : Try.prog.cellsOf e = 1) (hct : Try.prog.cellsOf t = 4) (h : DataW.trod enc Try.prog W base spare held fuel t l = some x) :
    ∃ b0 b1 b2 b3, l = [.int .u8 b0, .int .u8 b1, .int .u8 b2, .int .u8 b3] ∧ ∀ y ∈ [b0, b1, b2, b3], (Lit.int .u8 y).wf = true := by
  subst hn
  obtain ⟨xs, m, _, _, hl, hxl, hf⟩ := DataW.trod_array ht h
  rw [hct] at hl
  match l, hl with
  | [c0, c1, c2, c3], _ =>
    match xs, hxl with
    | [x0, x1, x2, x3], _ =>
      obtain ⟨b0, e0, _, w0⟩ := DataW.trod_int he (hf 0 (by omega))
      obtain ⟨b1, e1, _, w1⟩ := DataW.trod_int he (hf 1 (by omega))
      obtain ⟨b2, e2, _, w2⟩ := DataW.trod_int he (hf 2 (by omega))
      obtain ⟨b3, e3, _, w3⟩ := DataW.trod_int he (hf 3 (by omega))
      rw [hc] at e0 e1 e2 e3
      simp at e0 e1 e2 e3
      subst e0 e1 e2 e3
      refine ⟨b0, b1, b2, b3, rfl, fun y hy => ?_⟩
      simp at hy
      rcases hy with rfl | rfl | rfl | rfl <;> assumption
set_option maxRecDepth 100000 in
set_option maxHeartbeats 1000000 in
theorem lifted (os : Os) (started : os.Started) (H : Type) (enc : TypeId × Value → H) :
    ReturnsInHanded {} Try.checked os 6 .any (Rows.blockFewSpec.pre6 enc Try.prog Try.f6 Rows.blockFewRow.domain false) (Rows.blockFewSpec.post enc Try.prog Try.f6 false true false false) := by
  refine returnsInHanded_of_change_sized (C := Try.checked) own started (by kernel_rfl) Try.func6
    (ChangeSpec.witness6 (enc := enc) (C := Try.checked) false ⟨#[], #[(.agg #[.int .i64 0, .int .i64 0, .int .i64 0, .int .i64 0, .int .i64 0, .slice none 0 0]), .int .i64 0, .agg #[.int .u8 0, .int .u8 0, .int .u8 0, .int .u8 0], (.agg #[.int .i64 0, .int .i64 0, .int .i64 0, .int .i64 0, .int .i64 0, .slice none 0 0])], []⟩ 8 (by kernel_rfl) (by kernel_rfl) (by kernel_rfl) (by kernel_rfl)) ?_
  intro W base args ds gs before hval0 hW hcnd hsz0 _
  have hval : ∀ (j : Nat) t v, Try.f6.params[j]? = some t → args[j]? = some v → Value.okWide Try.prog W .any base t v := hval0
  have hW' := hW
  obtain ⟨p, q, hA0, hV, rfl, hfz, hnd⟩ := hW
  have hA : DataW.TrodAll enc Try.prog W 0 (fun _ => true) true Try.f6.params.toList args.toList ds p := hA0
  rw [Try.params6] at hA hval
  obtain ⟨v0, vs0, d0, ds0, p0, q0, hargs, rfl, rfl, h0, r0⟩ := trodAll_cons hA
  obtain ⟨v1, vs1, d1, ds1, p1, q1, rfl, rfl, rfl, h1, r1⟩ := trodAll_cons r0
  obtain ⟨v2, vs2, d2, ds2, p2, q2, rfl, rfl, rfl, h2, r2⟩ := trodAll_cons r1
  obtain ⟨v3, vs3, d3, ds3, p3, q3, rfl, rfl, rfl, h3, r3⟩ := trodAll_cons r2
  obtain ⟨rfl, rfl, rfl⟩ := trodAll_nil r3
  obtain rfl : args = #[v0, v1, v2, v3] := by cases args; simp_all
  obtain ⟨rfl, rfl⟩ := trodVars_none hV
  have k0 := h0
  have lt0 : ∀ x ∈ p0, x.block < W.heap.size := by obtain ⟨m, hm⟩ := k0; exact DataW.trod_lt m _ _ _ hm
  obtain ⟨cs0, rfl⟩ : ∃ cs, v0 = .agg cs := by
    have h := (hval 0 24 v0 rfl rfl)
    simp only [Value.okWide, Try.underlying24] at h
    obtain ⟨cs, h1, _⟩ := h
    exact ⟨cs, h1⟩
  obtain ⟨x0, hK0, hQ0⟩ := Opens.arg opens_T24 h0
  obtain ⟨A0_5, c0_5, e0, hc0_5, hC0_5⟩ := k24_open hK0
  obtain rfl : cs0 = #[.int .i64 x0.f0, .int .i64 x0.f1, .int .i64 x0.f2, .int .i64 x0.f3, .int .i64 x0.f4, .slice A0_5 x0.f5.length c0_5] := by
    cases cs0
    simpa [Value.cells] using e0
  have hm0_5 := Kd.C_max hC0_5
  obtain ⟨a1, rfl, rfl, rfl, w1⟩ := open_int Try.underlying3 (hval 1 3 v1 rfl rfl) h1
  obtain ⟨cs, rfl, hsz⟩ : ∃ cs, v2 = .agg cs ∧ cs.size = Try.prog.cellsOf 36 := by
    have := hval 2 36 v2 rfl rfl
    simp only [Value.okWide, Try.underlying36] at this
    obtain ⟨cs, h1, h2, _⟩ := this
    exact ⟨cs, h1, h2⟩
  have k2 := h2
  have lt2 : ∀ x ∈ p2, x.block < W.heap.size := by obtain ⟨m, hm⟩ := k2; exact DataW.trod_lt m _ _ _ hm
  obtain ⟨fuel2, hf2⟩ := h2
  obtain ⟨b0, b1, b2, b3, ecs, hb⟩ := four_bytes (by rfl) Try.underlying36 Try.underlying5 (by kernel_rfl) (by kernel_rfl) hf2
  obtain rfl : cs = #[.int .u8 b0, .int .u8 b1, .int .u8 b2, .int .u8 b3] := by
    cases cs
    simpa [Value.cells] using ecs
  have k3 := h3
  have lt3 : ∀ x ∈ p3, x.block < W.heap.size := by obtain ⟨m, hm⟩ := k3; exact DataW.trod_lt m _ _ _ hm
  obtain ⟨cs3, rfl⟩ : ∃ cs, v3 = .agg cs := by
    have h := (hval 3 24 v3 rfl rfl)
    simp only [Value.okWide, Try.underlying24] at h
    obtain ⟨cs, hh1, _⟩ := h
    exact ⟨cs, hh1⟩
  obtain ⟨x3, hK3, hQ3⟩ := Opens.arg opens_T24 h3
  obtain ⟨A3_5, c3_5, e3, hc3_5, hC3_5⟩ := k24_open hK3
  obtain rfl : cs3 = #[.int .i64 x3.f0, .int .i64 x3.f1, .int .i64 x3.f2, .int .i64 x3.f3, .int .i64 x3.f4, .slice A3_5 x3.f5.length c3_5] := by
    cases cs3
    simpa [Value.cells] using e3
  have hm3_5 := Kd.C_max hC3_5
  clear hA0 hval0 hsz0 hf2 ecs hsz
  refine (walk x0.f0 x0.f1 x0.f2 x0.f3 x0.f4 A0_5 c0_5 x0.f5 a1 b0 b1 b2 b3 x3.f0 x3.f1 x3.f2 x3.f3 x3.f4 A3_5 c3_5 x3.f5 W hC0_5 hc0_5 hC3_5 hc3_5 hQ0.2.2.2.2.2 hb).mono fun e W' ⟨he, bel⟩ => ?_
  subst he
  exact ⟨_, rfl, _, _, _, [], _, [], hW', trodAll_mk1 (shut_bool Try.underlying4 _), (trodAll_cons_mk (Below.trod laidOut (by kernel_rfl) (of_decide_eq_true (by kernel_rfl)) k0 bel lt0) (trodAll_cons_mk (shut_int Try.underlying3 w1) (trodAll_cons_mk (Below.trod laidOut (by kernel_rfl) (of_decide_eq_true (by kernel_rfl)) k2 bel lt2) (trodAll_cons_mk (Below.trod laidOut (by kernel_rfl) (of_decide_eq_true (by kernel_rfl)) k3 bel lt3) trodAll_mk0)))), rfl, bel.frame _, fun h => by cases h⟩
theorem over : Rows.blockFewRow.holds Try.pinned (OpenSpec.ofChange Rows.blockFewSpec) :=
  OpenClaim.holds_of_wide 6 Try.f6 rfl rfl rfl rfl rfl rfl rfl ⟨rfl, rfl, rfl, rfl, rfl⟩ rfl rfl rfl rfl rfl (by kernel_rfl) Try.func6 (by kernel_rfl)
    (of_decide_eq_true (by kernel_rfl)) (by unfold Func.isWrapper; first | (rw [if_pos (by decide +kernel)]; kernel_rfl) | (rw [if_neg (by decide +kernel)]; exact ⟨rfl, rfl⟩))
    (fun os started H enc _ => lifted os started H enc)
theorem proved : Rows.BlockFewSaid := over
#print axioms proved
end Go.Proofs.Ytnpkndbhchmedaa.blockFew
namespace Go.Proofs.Ytnpkndbhchmedaa
/-- The row, under a short name, for the claim. -/
theorem blockFew_holds : Rows.BlockFewSaid := blockFew.proved
end Go.Proofs.Ytnpkndbhchmedaa
