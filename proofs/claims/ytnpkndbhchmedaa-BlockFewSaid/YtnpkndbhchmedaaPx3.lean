/- BlockApart walked by hand: of blocks whose bytes are from 0 to 255 it answers true. Its plain function says so much alone. -/
import Derived.Test.YtnpkndbhchmedaaExtAwake
namespace Go.Proofs.Ytnpkndbhchmedaa.Px
set_option linter.unusedVariables false
open Go.RowKit Go.Proofs.Ytnpkndbhchmedaa.Pure Go.Proofs.Ytnpkndbhchmedaa.Pa Go.Proofs.Ytnpkndbhchmedaa.Pb Go.Proofs.Ytnpkndbhchmedaa.Ext Go.Proofs.YtnpkndbhchmedaaW.PrintWords Go.Proofs.YtnpkndbhchmedaaW.PrintLast Go.Proofs.YtnpkndbhchmedaaW.PrintMore

theorem may_at (a0 a1 a2 a3 a4 : Int) (A1 : Option Addr) (c1 : Nat) (l1 : List Int) (r : Bool) (w : World) (hr1 : Kd.C (Kd.int .u8) w A1 l1.length l1) (hc1 : l1.length ≤ c1) (h : block_May.f 1000 a0 a1 a2 a3 a4 l1 = some r) :
    Calls Try.prog 17 #[.agg #[.int .i64 a0, .int .i64 a1, .int .i64 a2, .int .i64 a3, .int .i64 a4, .slice A1 l1.length c1]] w fun e w' => e = .returned (.bool r) ∧ Below w.heap.size w w' :=
  block_May.calls 1000 a0 a1 a2 a3 a4 A1 c1 l1 r w hr1 hc1 h
def quartermasterlaw07_BlockApart.f (k : Nat) (a0_0 : Int) (a0_1 : Int) (a0_2 : Int) (a0_3 : Int) (a0_4 : Int) (l0_5 : List Int) (a1_0 : Int) (a1_1 : Int) (a1_2 : Int) (a1_3 : Int) (a1_4 : Int) (l1_5 : List Int) : Option Bool := if okB l0_5 = true then some true else none
def quartermasterlaw07_BlockApart.Pure : Prop := ∀ (a0_0 : Int) (a0_1 : Int) (a0_2 : Int) (a0_3 : Int) (a0_4 : Int) (l0_5 : List Int) (a1_0 : Int) (a1_1 : Int) (a1_2 : Int) (a1_3 : Int) (a1_4 : Int) (l1_5 : List Int), ((Lit.int .i64 a0_0).wf = true) → ((Lit.int .i64 a0_1).wf = true) → ((Lit.int .i64 a0_2).wf = true) → ((Lit.int .i64 a0_3).wf = true) → ((Lit.int .i64 a0_4).wf = true) → (l0_5.length ≤ maxLen) → (∀ y0 ∈ l0_5, (Lit.int .u8 y0).wf = true) → ((Lit.int .i64 a1_0).wf = true) → ((Lit.int .i64 a1_1).wf = true) → ((Lit.int .i64 a1_2).wf = true) → ((Lit.int .i64 a1_3).wf = true) → ((Lit.int .i64 a1_4).wf = true) → (l1_5.length ≤ maxLen) → (∀ y0 ∈ l1_5, (Lit.int .u8 y0).wf = true) → ∃ k, quartermasterlaw07_BlockApart.f k a0_0 a0_1 a0_2 a0_3 a0_4 l0_5 a1_0 a1_1 a1_2 a1_3 a1_4 l1_5 = some true
set_option maxRecDepth 100000 in
set_option maxHeartbeats 8000000 in
theorem quartermasterlaw07_BlockApart.calls (k : Nat) (a0_0 : Int) (a0_1 : Int) (a0_2 : Int) (a0_3 : Int) (a0_4 : Int) (A0_5 : Option Addr) (c0_5 : Nat) (l0_5 : List Int) (a1_0 : Int) (a1_1 : Int) (a1_2 : Int) (a1_3 : Int) (a1_4 : Int) (A1_5 : Option Addr) (c1_5 : Nat) (l1_5 : List Int) (r : Bool) (w : World) (hr0_5 : Kd.C (Kd.int .u8) w A0_5 l0_5.length l0_5) (hc0_5 : l0_5.length ≤ c0_5) (hr1_5 : Kd.C (Kd.int .u8) w A1_5 l1_5.length l1_5) (hc1_5 : l1_5.length ≤ c1_5) (h : quartermasterlaw07_BlockApart.f k a0_0 a0_1 a0_2 a0_3 a0_4 l0_5 a1_0 a1_1 a1_2 a1_3 a1_4 l1_5 = some r) :
    Calls Try.prog 7 #[.agg #[.int .i64 a0_0, .int .i64 a0_1, .int .i64 a0_2, .int .i64 a0_3, .int .i64 a0_4, .slice A0_5 l0_5.length c0_5], .agg #[.int .i64 a1_0, .int .i64 a1_1, .int .i64 a1_2, .int .i64 a1_3, .int .i64 a1_4, .slice A1_5 l1_5.length c1_5]] w fun e w' => e = .returned (.bool r) ∧ Below w.heap.size w w' := by
  unfold quartermasterlaw07_BlockApart.f at h
  by_cases hob : okB l0_5 = true
  case neg => rw [if_neg hob] at h; cases h
  rw [if_pos hob] at h
  obtain rfl := Option.some.inj h
  clear h
  have hu24 := Try.underlying24
  have hmax0 : l0_5.length ≤ 9223372036854775807 := Kd.C_max hr0_5
  have hmax1 : l1_5.length ≤ 9223372036854775807 := Kd.C_max hr1_5
  have HR0 := Aside0.mk hr0_5
  have HR1 := Aside0.mk hr1_5
  have HC0 := Aside0.mk hc0_5
  have HC1 := Aside0.mk hc1_5
  have HOB := Aside0.mk hob
  clear hr0_5 hc0_5 hr1_5 hc1_5 hob
  obtain ⟨W1, hW1⟩ : ∃ W1, W1 = (w.alloc (.cells #[.int .i64 a0_0, .int .i64 a0_1, .int .i64 a0_2, .int .i64 a0_3, .int .i64 a0_4, .slice A0_5 l0_5.length c0_5] 24)).alloc (.cells #[.int .i64 a1_0, .int .i64 a1_1, .int .i64 a1_2, .int .i64 a1_3, .int .i64 a1_4, .slice A1_5 l1_5.length c1_5] 24) := ⟨_, rfl⟩
  have HB0 : Aside0 (Below w.heap.size w W1) := ⟨by rw [hW1]; exact below_alloc (below_alloc (Below.refl _ _) _) _⟩
  have BA0 : Aside0 (W1.heap[w.heap.size]? = some (.cells #[.int .i64 a0_0, .int .i64 a0_1, .int .i64 a0_2, .int .i64 a0_3, .int .i64 a0_4, .slice A0_5 l0_5.length c0_5] 24 (0, 0))) := ⟨by rw [hW1]; exact blk_alloc (heap_alloc_new w _) _⟩
  have BB0 : Aside0 (W1.heap[w.heap.size + 1]? = some (.cells #[.int .i64 a1_0, .int .i64 a1_1, .int .i64 a1_2, .int .i64 a1_3, .int .i64 a1_4, .slice A1_5 l1_5.length c1_5] 24 (0, 0))) := ⟨by
    rw [hW1]
    have := heap_alloc_new (w.alloc (.cells #[.int .i64 a0_0, .int .i64 a0_1, .int .i64 a0_2, .int .i64 a0_3, .int .i64 a0_4, .slice A0_5 l0_5.length c0_5] 24)) (.cells #[.int .i64 a1_0, .int .i64 a1_1, .int .i64 a1_2, .int .i64 a1_3, .int .i64 a1_4, .slice A1_5 l1_5.length c1_5] 24)
    simpa using this⟩
  have HW1 := Aside0.mk hW1
  clear hW1
  have hmay := may_f (k := 1000) (a0 := a0_0) (a1 := a0_1) (a2 := a0_2) (a3 := a0_3) (a4 := a0_4) (l := l0_5) (by omega)
  generalize hmv : (numS a0_0 a0_1 a0_2 a0_3 a0_4 && decide ((l0_5.length : Int) ≤ 228)) = mv at hmay
  have HMAY := Aside0.mk hmay
  have HMV := Aside0.mk hmv
  clear hmay hmv
  go_enter Try.func7, Try.ntmps7
  go_wp2_with fail
  rw [← HW1.out]
  go_wp2_with fail
  refine (quartermasterlaw07_awake.calls true W1 rfl).mono ?_
  rintro e w1 ⟨rfl, hb1⟩
  have BA1 := Aside0.mk (blk_below BA0.out hb1)
  have BB1 := Aside0.mk (blk_below BB0.out hb1)
  have HB1 := Aside0.mk (below_then HB0.out HB0.out.size hb1)
  clear hb1
  have z1_0 : w1.cell? ⟨w.heap.size, 0, none⟩ = some (.int .i64 a0_0) := (blk_cell BA1.out 0).trans rfl
  have z1_1 : w1.cell? ⟨w.heap.size, 1, none⟩ = some (.int .i64 a0_1) := (blk_cell BA1.out 1).trans rfl
  have z1_2 : w1.cell? ⟨w.heap.size, 2, none⟩ = some (.int .i64 a0_2) := (blk_cell BA1.out 2).trans rfl
  have z1_3 : w1.cell? ⟨w.heap.size, 3, none⟩ = some (.int .i64 a0_3) := (blk_cell BA1.out 3).trans rfl
  have z1_4 : w1.cell? ⟨w.heap.size, 4, none⟩ = some (.int .i64 a0_4) := (blk_cell BA1.out 4).trans rfl
  have z1_5 : w1.cell? ⟨w.heap.size, 5, none⟩ = some (.slice A0_5 l0_5.length c0_5) := (blk_cell BA1.out 5).trans rfl
  go_wp2_with fail
  refine (may_at a0_0 a0_1 a0_2 a0_3 a0_4 A0_5 c0_5 l0_5 mv w1 (Kd.C_below HR0.out HB1.out) HC0.out HMAY.out).mono ?_
  rintro e w2 ⟨rfl, hb2⟩
  have BA2 := Aside0.mk (blk_below BA1.out hb2)
  have BB2 := Aside0.mk (blk_below BB1.out hb2)
  have HB2 := Aside0.mk (below_then HB1.out HB1.out.size hb2)
  clear hb2 z1_0 z1_1 z1_2 z1_3 z1_4 z1_5
  cases mv with
  | false =>
    go_wp2
    go_ret
    exact ⟨rfl, HB2.out⟩
  | true =>
    have hmv := HMV.out
    simp only [Bool.and_eq_true, decide_eq_true_eq] at hmv
    obtain ⟨hn, h2⟩ := hmv
    have h2' : l0_5.length ≤ 228 := by omega
    obtain ⟨S, hS⟩ : ∃ S, S = sealT a0_0 a0_1 a0_2 a0_3 a0_4 l0_5 := ⟨_, rfl⟩
    have hlen : S.length = 256 := by rw [hS]; exact sealT_length h2'
    have q1 : block_Seal.f 1000 a0_0 a0_1 a0_2 a0_3 a0_4 l0_5 = some (S, 0) := by rw [seal_blk (by omega) HOB.out, sealS_ok h2', if_pos hn, hS]
    have q2 : block_Class.f 1000 S a1_0 a1_1 a1_2 a1_3 a1_4 l1_5 = some (classS (a0_0, a0_1, a0_2, a0_3, a0_4, l0_5, 0) a1_0 a1_1 a1_2 a1_3 a1_4) := by
      rw [class_f (by omega) (by rw [hS]; exact okB_sealT HOB.out) (by omega), hS, open_seal hn h2']
    have Q1 := Aside0.mk q1
    have HL := Aside0.mk hlen
    have Q2 := Aside0.mk q2
    clear q1 q2 hlen hS hn h2 h2'
    have z2_0 : w2.cell? ⟨w.heap.size, 0, none⟩ = some (.int .i64 a0_0) := (blk_cell BA2.out 0).trans rfl
    have z2_1 : w2.cell? ⟨w.heap.size, 1, none⟩ = some (.int .i64 a0_1) := (blk_cell BA2.out 1).trans rfl
    have z2_2 : w2.cell? ⟨w.heap.size, 2, none⟩ = some (.int .i64 a0_2) := (blk_cell BA2.out 2).trans rfl
    have z2_3 : w2.cell? ⟨w.heap.size, 3, none⟩ = some (.int .i64 a0_3) := (blk_cell BA2.out 3).trans rfl
    have z2_4 : w2.cell? ⟨w.heap.size, 4, none⟩ = some (.int .i64 a0_4) := (blk_cell BA2.out 4).trans rfl
    have z2_5 : w2.cell? ⟨w.heap.size, 5, none⟩ = some (.slice A0_5 l0_5.length c0_5) := (blk_cell BA2.out 5).trans rfl
    go_wp2_with fail
    refine (seal_at (m := l0_5.length) a0_0 a0_1 a0_2 a0_3 a0_4 A0_5 c0_5 l0_5 S 0 w2 rfl (Kd.C_below HR0.out HB2.out) HC0.out Q1.out).mono ?_
    rintro e w3 ⟨v3, rfl, hv3, hb3⟩
    have BA3 := Aside0.mk (blk_below BA2.out hb3)
    have BB3 := Aside0.mk (blk_below BB2.out hb3)
    have HB3 := Aside0.mk (below_then HB2.out HB2.out.size hb3)
    obtain ⟨A3, c3, rfl, hlc3, hC3⟩ := Kd.R_reads hv3
    rw [HL.out] at hlc3 hC3 ⊢
    have HC3 := Aside0.mk hC3
    clear hb3 hv3 hC3 z2_0 z2_1 z2_2 z2_3 z2_4 z2_5
    have z3_0 : w3.cell? ⟨(w.heap.size + 1), 0, none⟩ = some (.int .i64 a1_0) := (blk_cell BB3.out 0).trans rfl
    have z3_1 : w3.cell? ⟨(w.heap.size + 1), 1, none⟩ = some (.int .i64 a1_1) := (blk_cell BB3.out 1).trans rfl
    have z3_2 : w3.cell? ⟨(w.heap.size + 1), 2, none⟩ = some (.int .i64 a1_2) := (blk_cell BB3.out 2).trans rfl
    have z3_3 : w3.cell? ⟨(w.heap.size + 1), 3, none⟩ = some (.int .i64 a1_3) := (blk_cell BB3.out 3).trans rfl
    have z3_4 : w3.cell? ⟨(w.heap.size + 1), 4, none⟩ = some (.int .i64 a1_4) := (blk_cell BB3.out 4).trans rfl
    have z3_5 : w3.cell? ⟨(w.heap.size + 1), 5, none⟩ = some (.slice A1_5 l1_5.length c1_5) := (blk_cell BB3.out 5).trans rfl
    go_wp2_with fail
    refine (class_at (n := 256) (m := l1_5.length) A3 c3 S a1_0 a1_1 a1_2 a1_3 a1_4 A1_5 c1_5 l1_5 _ w3 HL.out rfl HC3.out hlc3 (Kd.C_below HR1.out HB3.out) HC1.out Q2.out).mono ?_
    rintro e w4 ⟨rfl, hb4⟩
    have BA4 := Aside0.mk (blk_below BA3.out hb4)
    have BB4 := Aside0.mk (blk_below BB3.out hb4)
    have HB4 := Aside0.mk (below_then HB3.out HB3.out.size hb4)
    clear hb4 z3_0 z3_1 z3_2 z3_3 z3_4 z3_5
    have key : ∀ c : Int, c = classS (a0_0, a0_1, a0_2, a0_3, a0_4, l0_5, 0) a1_0 a1_1 a1_2 a1_3 a1_4 →
        (a0_1 ≠ a1_1 ∧ c = 3) ∨ (a0_1 = a1_1 ∧ a0_2 ≠ a1_2 ∧ c = 3) ∨ (a0_1 = a1_1 ∧ a0_2 = a1_2 ∧ a0_0 ≠ a1_0 ∧ c = 2) ∨ (a0_1 = a1_1 ∧ a0_2 = a1_2 ∧ a0_0 = a1_0 ∧ a0_3 ≠ a1_3 ∧ c = 2) ∨ (a0_1 = a1_1 ∧ a0_2 = a1_2 ∧ a0_0 = a1_0 ∧ a0_3 = a1_3 ∧ a0_4 ≠ a1_4 ∧ c = 2) ∨ (a0_1 = a1_1 ∧ a0_2 = a1_2 ∧ a0_0 = a1_0 ∧ a0_3 = a1_3 ∧ a0_4 = a1_4 ∧ c = 1) := by
      intro c hc
      subst hc
      unfold classS
      by_cases c1 : a0_1 = a1_1 <;> by_cases c2 : a0_2 = a1_2 <;> by_cases c0 : a0_0 = a1_0 <;> by_cases c3 : a0_3 = a1_3 <;> by_cases c4 : a0_4 = a1_4 <;> simp [c0, c1, c2, c3, c4]
    generalize hcc : classS (a0_0, a0_1, a0_2, a0_3, a0_4, l0_5, 0) a1_0 a1_1 a1_2 a1_3 a1_4 = c
    have hk := key c hcc.symm
    clear key hcc
    have za_0 : w4.cell? ⟨w.heap.size, 0, none⟩ = some (.int .i64 a0_0) := (blk_cell BA4.out 0).trans rfl
    have za_1 : w4.cell? ⟨w.heap.size, 1, none⟩ = some (.int .i64 a0_1) := (blk_cell BA4.out 1).trans rfl
    have za_2 : w4.cell? ⟨w.heap.size, 2, none⟩ = some (.int .i64 a0_2) := (blk_cell BA4.out 2).trans rfl
    have za_3 : w4.cell? ⟨w.heap.size, 3, none⟩ = some (.int .i64 a0_3) := (blk_cell BA4.out 3).trans rfl
    have za_4 : w4.cell? ⟨w.heap.size, 4, none⟩ = some (.int .i64 a0_4) := (blk_cell BA4.out 4).trans rfl
    have zb_0 : w4.cell? ⟨(w.heap.size + 1), 0, none⟩ = some (.int .i64 a1_0) := (blk_cell BB4.out 0).trans rfl
    have zb_1 : w4.cell? ⟨(w.heap.size + 1), 1, none⟩ = some (.int .i64 a1_1) := (blk_cell BB4.out 1).trans rfl
    have zb_2 : w4.cell? ⟨(w.heap.size + 1), 2, none⟩ = some (.int .i64 a1_2) := (blk_cell BB4.out 2).trans rfl
    have zb_3 : w4.cell? ⟨(w.heap.size + 1), 3, none⟩ = some (.int .i64 a1_3) := (blk_cell BB4.out 3).trans rfl
    have zb_4 : w4.cell? ⟨(w.heap.size + 1), 4, none⟩ = some (.int .i64 a1_4) := (blk_cell BB4.out 4).trans rfl
    rcases hk with ⟨e1, rfl⟩ | ⟨e1, e2, rfl⟩ | ⟨e1, e2, e0, rfl⟩ | ⟨e1, e2, e0, e3, rfl⟩ | ⟨e1, e2, e0, e3, e4, rfl⟩ | ⟨e1, e2, e0, e3, e4, rfl⟩
    · have d1 := beq_eq_false_iff_ne.mpr e1
      clear e1
      go_wp2
      go_ret
      exact ⟨rfl, HB4.out⟩
    · have d1 := beq_iff_eq.mpr e1
      have d2 := beq_eq_false_iff_ne.mpr e2
      clear e1 e2
      go_wp2
      go_ret
      exact ⟨rfl, HB4.out⟩
    · have d1 := beq_iff_eq.mpr e1
      have d2 := beq_iff_eq.mpr e2
      have d0 := beq_eq_false_iff_ne.mpr e0
      clear e1 e2 e0
      go_wp2
      go_ret
      exact ⟨rfl, HB4.out⟩
    · have d1 := beq_iff_eq.mpr e1
      have d2 := beq_iff_eq.mpr e2
      have d0 := beq_iff_eq.mpr e0
      have d3 := beq_eq_false_iff_ne.mpr e3
      clear e1 e2 e0 e3
      go_wp2
      go_ret
      exact ⟨rfl, HB4.out⟩
    · have d1 := beq_iff_eq.mpr e1
      have d2 := beq_iff_eq.mpr e2
      have d0 := beq_iff_eq.mpr e0
      have d3 := beq_iff_eq.mpr e3
      have d4 := beq_eq_false_iff_ne.mpr e4
      clear e1 e2 e0 e3 e4
      go_wp2
      go_ret
      exact ⟨rfl, HB4.out⟩
    · have d1 := beq_iff_eq.mpr e1
      have d2 := beq_iff_eq.mpr e2
      have d0 := beq_iff_eq.mpr e0
      have d3 := beq_iff_eq.mpr e3
      have d4 := beq_iff_eq.mpr e4
      clear e1 e2 e0 e3 e4
      go_wp2
      go_ret
      exact ⟨rfl, HB4.out⟩
end Go.Proofs.Ytnpkndbhchmedaa.Px
