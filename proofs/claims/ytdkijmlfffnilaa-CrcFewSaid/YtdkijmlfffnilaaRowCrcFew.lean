/- If in what is sealed up to 4 bytes that stand in a row are changed it is not whole, wherever they stand (CrcFewSaid). At most 600 bytes, as the statement itself bounds them. -/
import Derived.Test.YtdkijmlfffnilaaRows
import Derived.Test.YtdkijmlfffnilaaFewWalk
import Derived.Test.YtdkijmlfffnilaaOpens
import Derived.WalkKit
import Derived.ProofKit
import Derived.OpenShut
import Derived.ShutString
import Derived.ChangeOld
import Derived.Below
import Derived.SizedLaws
namespace Go.Proofs.Ytdkijmlfffnilaa.crcFew
open Go.ChangeShapes Go.WideShapes Go.ChangeAt Go.RowKit
open Go.ChangeMaps (open_string shut_string)
set_option linter.unusedVariables false
theorem own : ownKnob Try.prog.godebug = none := by kernel_rfl
theorem laidOut : laidOutB Try.prog = true := by kernel_rfl
open Go.Proofs.YtdkijmlfffnilaaW.PrintWords Ext Few Opens
theorem few_long (A0 : Option Addr) (c0 : Nat) (l0 : List Int) (at_ : Int) (b0 b1 b2 b3 : Int) (w : World) (hr0 : Kd.C (Kd.int .u8) w A0 l0.length l0) (hc0 : l0.length ≤ c0) (ho : okB l0 = true) (hl : 600 < l0.length) :
    Calls Try.prog 5 #[.slice A0 l0.length c0, .int .i64 at_, .agg #[.int .u8 b0, .int .u8 b1, .int .u8 b2, .int .u8 b3]] w fun e w' => e = .returned (.bool true) ∧ Below w.heap.size w w' := by
  have g1 : decide (600 < l0.length) = true := decide_eq_true hl
  have hmax := Kd.C_max hr0
  go_enter Try.func5, Try.ntmps5
  go_wp2_with (go_at_call 8; refine (quartermasterlaw04_awake.calls true _ rfl).mono ?_; rintro e w1 ⟨rfl, hb1⟩; have HB1 := Aside0.mk hb1; clear hb1)
  go_ret
  exact ⟨rfl, below_then (below_alloc (Below.refl w.heap.size w) _) (by simp) HB1.out⟩
theorem few_out (A0 : Option Addr) (c0 : Nat) (l0 : List Int) (at_ : Int) (b0 b1 b2 b3 : Int) (w : World) (hr0 : Kd.C (Kd.int .u8) w A0 l0.length l0) (hc0 : l0.length ≤ c0) (ho : okB l0 = true) (hl : l0.length ≤ 600) (hat : at_ < 0 ∨ (l0.length : Int) < at_) :
    Calls Try.prog 5 #[.slice A0 l0.length c0, .int .i64 at_, .agg #[.int .u8 b0, .int .u8 b1, .int .u8 b2, .int .u8 b3]] w fun e w' => e = .returned (.bool true) ∧ Below w.heap.size w w' := by
  have g1 : decide (600 < l0.length) = false := decide_eq_false (by omega)
  have hseal := Pure.seal_f ho (by omega)
  have hlen4 : (le4 (moreS 0 l0 : Nat)).length = 4 := rfl
  have hlen : (l0 ++ le4 (moreS 0 l0 : Nat)).length = l0.length + 4 := by rw [List.length_append, hlen4]
  have hos := okB_append ho (Pure.okB_le4 (moreS 0 l0))
  obtain ⟨s, es⟩ : ∃ s, s = l0 ++ le4 (moreS 0 l0 : Nat) := ⟨_, rfl⟩
  rw [← es] at hseal hlen hos
  have hwh : Pb.crc_Whole.f 700 s = some true := by
    rw [Pure.whole_f hos (by omega) (by omega), es, Pure.wholeS_seal]
  have HSEAL := Aside0.mk hseal
  have HLEN := Aside0.mk hlen
  have HWH := Aside0.mk hwh
  have HR := Aside0.mk hr0
  clear hseal hos hlen hwh hr0 es ho hlen4
  by_cases hneg : at_ < 0
  all_goals
    first | (have g2 : decide (at_ < 0) = true := decide_eq_true hneg) | (have g2 : decide (at_ < 0) = false := decide_eq_false hneg; have g3 : decide ((l0.length : Int) < at_) = true := decide_eq_true (by omega))
    clear hat
    go_enter Try.func5, Try.ntmps5
    go_wp2_with (first | (go_at_call 8; refine (quartermasterlaw04_awake.calls true _ rfl).mono ?_; rintro e w1 ⟨rfl, hb1⟩; have HB1 := Aside0.mk hb1; clear hb1) | (go_at_call 10; refine (crc_Seal.calls A0 c0 l0 s _ (Kd.C_below (Kd.C_alloc HR.out _) HB1.out) hc0 HSEAL.out).mono ?_; rintro e w2 ⟨v, rfl, hv, hb2⟩; have HB2 := Aside0.mk hb2; obtain ⟨g, c2, rfl, hg1, hg2, cells, hcells⟩ := Kd.R_form hv (by have := HLEN.out; omega); have HG := Aside0.mk hg1; have HV := Aside0.mk hv; clear hv hb2 hcells hg1; have hsl : (s.length : Int) = (l0.length : Int) + 4 := by (have := HLEN.out; omega)) | (have tok := HB3; go_at_call 14; refine (Pb.crc_Whole.calls 700 _ _ s true _ (Kd.C_below (Kd.R_reads' HV.out).2.2 HB3.out) (Kd.R_reads' HV.out).2.1 HWH.out).mono ?_; rintro e w4 ⟨rfl, hb4⟩; have HB4 := Aside0.mk hb4; clear hb4 tok) | (go_at_call 14; refine (Pb.crc_Whole.calls 700 _ _ s true _ (Kd.R_reads' HV.out).2.2 (Kd.R_reads' HV.out).2.1 HWH.out).mono ?_; rintro e w3 ⟨rfl, hb3⟩; have HB3 := Aside0.mk hb3; clear hb3))
    go_ret
    refine ⟨rfl, ?_⟩
    have z1 := below_then (below_alloc (Below.refl w.heap.size w) _) (by simp) HB1.out
    have z2 := below_then z1 z1.size HB2.out
    have z3 := below_then z2 z2.size HB3.out
    exact below_then z3 z3.size HB4.out
theorem walk (A0 : Option Addr) (c0 : Nat) (l0 : List Int) (at_ : Int) (b0 b1 b2 b3 : Int) (w : World) (hr0 : Kd.C (Kd.int .u8) w A0 l0.length l0) (hc0 : l0.length ≤ c0) (hw : ∀ x ∈ l0, (Lit.int .u8 x).wf = true) (hy : ∀ x ∈ [b0, b1, b2, b3], (Lit.int .u8 x).wf = true) :
    Calls Try.prog 5 #[.slice A0 l0.length c0, .int .i64 at_, .agg #[.int .u8 b0, .int .u8 b1, .int .u8 b2, .int .u8 b3]] w fun e w' => e = .returned (.bool true) ∧ Below w.heap.size w w' := by
  have ho := Pure.okB_wf hw
  have hy' := Pure.okB_wf hy
  by_cases hl : 600 < l0.length
  · exact few_long A0 c0 l0 at_ b0 b1 b2 b3 w hr0 hc0 ho hl
  by_cases hat : at_ < 0 ∨ (l0.length : Int) < at_
  · exact few_out A0 c0 l0 at_ b0 b1 b2 b3 w hr0 hc0 ho (by omega) hat
  · obtain ⟨p, rfl⟩ : ∃ p : Nat, at_ = (p : Int) := ⟨at_.toNat, by omega⟩
    exact calls_few A0 c0 l0 p b0 b1 b2 b3 w hr0 hc0 ho hy' (by omega) (by omega)
theorem four_bytes {n : Nat} {t e : TypeId} {H : Type} {enc : TypeId × Value → H} {W : World} {base : Nat} {spare : Nat → Bool} {held : Bool} {fuel : Nat} {l : List Value} {x : DataW H × List MemPlace} (hn : n = 4)
    (ht : Try.prog.underlying t = some (.array n e)) (he : Try.prog.underlying e = some (.int .u8)) (hc : Try.prog.cellsOf e = 1) (hct : Try.prog.cellsOf t = 4) (h : DataW.trod enc Try.prog W base spare held fuel t l = some x) :
    ∃ b0 b1 b2 b3, l = [.int .u8 b0, .int .u8 b1, .int .u8 b2, .int .u8 b3] ∧ ∀ y ∈ [b0, b1, b2, b3], (Lit.int .u8 y).wf = true := by
  subst hn
  obtain ⟨xs, m, _, _, hl, hxl, hf⟩ := DataW.trod_array ht h
  rw [hct] at hl
  match l, hl with
  | [c0, c1, c2, c3], _ =>
    match xs, hxl with
    | [x0, x1, x2, x3], _ =>
      obtain ⟨b0, e0, _, w0⟩ := DataW.trod_int he (hf 0 (by omega))
      obtain ⟨b1, e1, _, w1⟩ := DataW.trod_int he (hf 1 (by omega))
      obtain ⟨b2, e2, _, w2⟩ := DataW.trod_int he (hf 2 (by omega))
      obtain ⟨b3, e3, _, w3⟩ := DataW.trod_int he (hf 3 (by omega))
      rw [hc] at e0 e1 e2 e3
      simp at e0 e1 e2 e3
      subst e0 e1 e2 e3
      refine ⟨b0, b1, b2, b3, rfl, fun y hy => ?_⟩
      simp at hy
      rcases hy with rfl | rfl | rfl | rfl <;> assumption
set_option maxRecDepth 100000 in
theorem lifted (os : Os) (started : os.Started) (H : Type) (enc : TypeId × Value → H) :
    ReturnsInHanded {} Try.checked os 5 .any (Rows.crcFewSpec.pre6 enc Try.prog Try.f5 Rows.crcFewRow.domain false) (Rows.crcFewSpec.post enc Try.prog Try.f5 false true false false) := by
  refine returnsInHanded_of_change_sized (C := Try.checked) own started (by kernel_rfl) Try.func5
    (ChangeSpec.witness6 (enc := enc) (C := Try.checked) false ⟨#[], #[.slice none 0 0, .int .i64 0, .agg #[.int .u8 0, .int .u8 0, .int .u8 0, .int .u8 0]], []⟩ 8 (by kernel_rfl) (by kernel_rfl) (by kernel_rfl) (by kernel_rfl)) ?_
  intro W base args ds gs before hval0 hW hcnd hsz0 _
  have hval : ∀ (j : Nat) t v, Try.f5.params[j]? = some t → args[j]? = some v → Value.okWide Try.prog W .any base t v := hval0
  have hW' := hW
  obtain ⟨p, q, hA0, hV, rfl, hfz, hnd⟩ := hW
  have hA : DataW.TrodAll enc Try.prog W 0 (fun _ => true) true Try.f5.params.toList args.toList ds p := hA0
  rw [Try.params5] at hA hval
  obtain ⟨v0, vs0, d0, ds0, p0, q0, hargs, rfl, rfl, h0, r0⟩ := trodAll_cons hA
  obtain ⟨v1, vs1, d1, ds1, p1, q1, rfl, rfl, rfl, h1, r1⟩ := trodAll_cons r0
  obtain ⟨v2, vs2, d2, ds2, p2, q2, rfl, rfl, rfl, h2, r2⟩ := trodAll_cons r1
  obtain ⟨rfl, rfl, rfl⟩ := trodAll_nil r2
  obtain rfl : args = #[v0, v1, v2] := by cases args; simp_all
  obtain ⟨rfl, rfl⟩ := trodVars_none hV
  obtain ⟨a0, len0, cap0, rfl⟩ := okWide_slice Try.underlying22 (hval 0 22 v0 rfl rfl)
  have k0 := h0
  have lt0 : ∀ x ∈ p0, x.block < W.heap.size := by obtain ⟨m, hm⟩ := k0; exact DataW.trod_lt m _ _ _ hm
  obtain ⟨l0, ⟨A0, c0, e0, hc0, hC0⟩, hw0⟩ := Opens.arg (Opens.slice (Q := fun n => (Lit.int .u8 n).wf = true) Try.underlying22 (by kernel_rfl) (Opens.int Try.underlying5)) h0
  obtain ⟨rfl, rfl, rfl⟩ : a0 = A0 ∧ len0 = l0.length ∧ cap0 = c0 := by simpa [Value.cells] using e0
  obtain ⟨a1, rfl, rfl, rfl, w1⟩ := open_int Try.underlying3 (hval 1 3 v1 rfl rfl) h1
  obtain ⟨cs, rfl, hsz⟩ : ∃ cs, v2 = .agg cs ∧ cs.size = Try.prog.cellsOf 30 := by
    have := hval 2 30 v2 rfl rfl
    simp only [Value.okWide, Try.underlying30] at this
    obtain ⟨cs, h1, h2, _⟩ := this
    exact ⟨cs, h1, h2⟩
  have k2 := h2
  have lt2 : ∀ x ∈ p2, x.block < W.heap.size := by obtain ⟨m, hm⟩ := k2; exact DataW.trod_lt m _ _ _ hm
  obtain ⟨fuel2, hf2⟩ := h2
  obtain ⟨b0, b1, b2, b3, ecs, hb⟩ := four_bytes (by rfl) Try.underlying30 Try.underlying5 (by kernel_rfl) (by kernel_rfl) hf2
  obtain rfl : cs = #[.int .u8 b0, .int .u8 b1, .int .u8 b2, .int .u8 b3] := by
    cases cs
    simpa [Value.cells] using ecs
  clear hA0 hval0 hsz0 hf2 ecs e0 hsz
  refine (walk a0 cap0 l0 a1 b0 b1 b2 b3 W hC0 hc0 hw0 hb).mono fun e W' ⟨he, bel⟩ => ?_
  subst he
  exact ⟨_, rfl, _, _, _, [], _, [], hW', trodAll_mk1 (shut_bool Try.underlying4 _), (trodAll_cons_mk (Below.trod laidOut (by kernel_rfl) (of_decide_eq_true (by kernel_rfl)) k0 bel lt0) (trodAll_cons_mk (shut_int Try.underlying3 w1) (trodAll_cons_mk (Below.trod laidOut (by kernel_rfl) (of_decide_eq_true (by kernel_rfl)) k2 bel lt2) trodAll_mk0))), rfl, bel.frame _, fun h => by cases h⟩
theorem over : Rows.crcFewRow.holds Try.pinned (OpenSpec.ofChange Rows.crcFewSpec) :=
  OpenClaim.holds_of_wide 5 Try.f5 rfl rfl rfl rfl rfl rfl rfl ⟨rfl, rfl, rfl, rfl, rfl⟩ rfl rfl rfl rfl rfl (by kernel_rfl) Try.func5 (by kernel_rfl)
    (of_decide_eq_true (by kernel_rfl)) (by unfold Func.isWrapper; first | (rw [if_pos (by decide +kernel)]; kernel_rfl) | (rw [if_neg (by decide +kernel)]; exact ⟨rfl, rfl⟩))
    (fun os started H enc _ => lifted os started H enc)
theorem proved : Rows.CrcFewSaid := over
#print axioms proved
end Go.Proofs.Ytdkijmlfffnilaa.crcFew
namespace Go.Proofs.Ytdkijmlfffnilaa
/-- The row, under a short name, for the claim. -/
theorem crcFew_holds : Rows.CrcFewSaid := crcFew.proved
end Go.Proofs.Ytdkijmlfffnilaa
