/- BlockFew walked by hand: of blocks whose bytes are from 0 to 255, changed somewhere in what is sealed, it answers true. -/
import Derived.Test.YtnpkndbhchmedaaFewPure
import Derived.Test.YtnpkndbhchmedaaPx3
import Derived.RegionTactic
import Derived.ChangeAlike
import Derived.Deep.RegionHeld3
import Derived.Deep.RegionWith
namespace Go.Proofs.Ytnpkndbhchmedaa.Few
set_option linter.unusedVariables false
open Go.RowKit Go.Proofs.Ytnpkndbhchmedaa.Pure Go.Proofs.Ytnpkndbhchmedaa.Pa Go.Proofs.Ytnpkndbhchmedaa.Pb Go.Proofs.Ytnpkndbhchmedaa.Px Go.Proofs.Ytnpkndbhchmedaa.Ext Go.Proofs.YtnpkndbhchmedaaW.PrintWords Go.Proofs.YtnpkndbhchmedaaW.PrintLast Go.Proofs.YtnpkndbhchmedaaW.PrintMore

/-- What stays, whatever is made. -/
structure RestS (g : Nat) (w : World) (S' : List Int) (W : World) : Prop where
  c : Kd.C (Kd.int .u8) W (some ⟨g, 0, none⟩) 256 S'
  b : Below w.heap.size w W
theorem keepS {w : World} {S' : List Int} {g gw : Nat} {v0 v1 v2 v3 v4 v5 : Value} {W W' : World} (h : W.cell? ⟨gw, 0, none⟩ = some v0 ∧ W.cell? ⟨gw, 1, none⟩ = some v1 ∧ W.cell? ⟨gw, 2, none⟩ = some v2 ∧ W.cell? ⟨gw, 3, none⟩ = some v3 ∧ W.cell? ⟨gw, 4, none⟩ = some v4 ∧ W.cell? ⟨gw, 5, none⟩ = some v5 ∧ RestS g w S' W) (hb : Below W.heap.size W W') :
    W'.cell? ⟨gw, 0, none⟩ = some v0 ∧ W'.cell? ⟨gw, 1, none⟩ = some v1 ∧ W'.cell? ⟨gw, 2, none⟩ = some v2 ∧ W'.cell? ⟨gw, 3, none⟩ = some v3 ∧ W'.cell? ⟨gw, 4, none⟩ = some v4 ∧ W'.cell? ⟨gw, 5, none⟩ = some v5 ∧ RestS g w S' W' := by
  obtain ⟨h0, h1, h2, h3, h4, h5, ⟨hr1, hr2⟩⟩ := h
  have c : ∀ i v, W.cell? ⟨gw, i, none⟩ = some v → W'.cell? ⟨gw, i, none⟩ = some v := fun i v h => (hb.cell (World.block_lt_of_cell? _ _ h)).trans h
  exact ⟨c _ _ h0, c _ _ h1, c _ _ h2, c _ _ h3, c _ _ h4, c _ _ h5, ⟨Kd.C_below hr1 hb, below_then hr2 hr2.size hb⟩⟩
set_option maxRecDepth 100000 in
set_option maxHeartbeats 8000000 in
theorem few_out (a0_0 a0_1 a0_2 a0_3 a0_4 : Int) (A0_5 : Option Addr) (c0_5 : Nat) (l0_5 : List Int) (at_ : Int) (b0 b1 b2 b3 : Int) (a1_0 a1_1 a1_2 a1_3 a1_4 : Int) (A1_5 : Option Addr) (c1_5 : Nat) (l1_5 : List Int) (w : World) (hr0_5 : Kd.C (Kd.int .u8) w A0_5 l0_5.length l0_5) (hc0_5 : l0_5.length ≤ c0_5) (hr1_5 : Kd.C (Kd.int .u8) w A1_5 l1_5.length l1_5) (hc1_5 : l1_5.length ≤ c1_5) (hob : okB l0_5 = true) (hat : at_ < 0 ∨ 252 < at_) :
    Calls Try.prog 6 #[.agg #[.int .i64 a0_0, .int .i64 a0_1, .int .i64 a0_2, .int .i64 a0_3, .int .i64 a0_4, .slice A0_5 l0_5.length c0_5], .int .i64 at_, .agg #[.int .u8 b0, .int .u8 b1, .int .u8 b2, .int .u8 b3], .agg #[.int .i64 a1_0, .int .i64 a1_1, .int .i64 a1_2, .int .i64 a1_3, .int .i64 a1_4, .slice A1_5 l1_5.length c1_5]] w fun e w' => e = .returned (.bool true) ∧ Below w.heap.size w w' := by
  have hu24 := Try.underlying24
  have hmax0 : l0_5.length ≤ 9223372036854775807 := Kd.C_max hr0_5
  have hmax1 : l1_5.length ≤ 9223372036854775807 := Kd.C_max hr1_5
  have HR0 := Aside0.mk hr0_5
  have HR1 := Aside0.mk hr1_5
  have HC0 := Aside0.mk hc0_5
  have HC1 := Aside0.mk hc1_5
  have HOB := Aside0.mk hob
  clear hr0_5 hc0_5 hr1_5 hc1_5 hob
  obtain ⟨W1, hW1⟩ : ∃ W1, W1 = ((w.alloc (.cells #[.int .i64 a0_0, .int .i64 a0_1, .int .i64 a0_2, .int .i64 a0_3, .int .i64 a0_4, .slice A0_5 l0_5.length c0_5] 24)).alloc (.cells #[.int .u8 b0, .int .u8 b1, .int .u8 b2, .int .u8 b3] 36)).alloc (.cells #[.int .i64 a1_0, .int .i64 a1_1, .int .i64 a1_2, .int .i64 a1_3, .int .i64 a1_4, .slice A1_5 l1_5.length c1_5] 24) := ⟨_, rfl⟩
  have HB0 : Aside0 (Below w.heap.size w W1) := ⟨by rw [hW1]; exact below_alloc (below_alloc (below_alloc (Below.refl _ _) _) _) _⟩
  have BA0 : Aside0 (W1.heap[w.heap.size]? = some (.cells #[.int .i64 a0_0, .int .i64 a0_1, .int .i64 a0_2, .int .i64 a0_3, .int .i64 a0_4, .slice A0_5 l0_5.length c0_5] 24 (0, 0))) := ⟨by rw [hW1]; exact blk_alloc (blk_alloc (heap_alloc_new w _) _) _⟩
  have BY0 : Aside0 (W1.heap[w.heap.size + 1]? = some (.cells #[.int .u8 b0, .int .u8 b1, .int .u8 b2, .int .u8 b3] 36 (0, 0))) := ⟨by
    rw [hW1]
    have := heap_alloc_new (w.alloc (.cells #[.int .i64 a0_0, .int .i64 a0_1, .int .i64 a0_2, .int .i64 a0_3, .int .i64 a0_4, .slice A0_5 l0_5.length c0_5] 24)) (.cells #[.int .u8 b0, .int .u8 b1, .int .u8 b2, .int .u8 b3] 36)
    exact blk_alloc (by simpa using this) _⟩
  have BB0 : Aside0 (W1.heap[w.heap.size + 2]? = some (.cells #[.int .i64 a1_0, .int .i64 a1_1, .int .i64 a1_2, .int .i64 a1_3, .int .i64 a1_4, .slice A1_5 l1_5.length c1_5] 24 (0, 0))) := ⟨by
    rw [hW1]
    have := heap_alloc_new ((w.alloc (.cells #[.int .i64 a0_0, .int .i64 a0_1, .int .i64 a0_2, .int .i64 a0_3, .int .i64 a0_4, .slice A0_5 l0_5.length c0_5] 24)).alloc (.cells #[.int .u8 b0, .int .u8 b1, .int .u8 b2, .int .u8 b3] 36)) (.cells #[.int .i64 a1_0, .int .i64 a1_1, .int .i64 a1_2, .int .i64 a1_3, .int .i64 a1_4, .slice A1_5 l1_5.length c1_5] 24)
    simpa using this⟩
  have HSZ : Aside0 (W1.heap.size = w.heap.size + 3) := ⟨by rw [hW1]; simp⟩
  have HW1 := Aside0.mk hW1
  clear hW1
  have hmay := may_f (k := 1000) (a0 := a0_0) (a1 := a0_1) (a2 := a0_2) (a3 := a0_3) (a4 := a0_4) (l := l0_5) (by omega)
  generalize hmv : (numS a0_0 a0_1 a0_2 a0_3 a0_4 && decide ((l0_5.length : Int) ≤ 228)) = mv at hmay
  have HMAY := Aside0.mk hmay
  have HMV := Aside0.mk hmv
  clear hmay hmv
  go_enter Try.func6, Try.ntmps6
  go_wp2_with fail
  rw [← HW1.out]
  go_wp2_with fail
  refine (quartermasterlaw07_awake.calls true W1 rfl).mono ?_
  rintro e w1 ⟨rfl, hb1⟩
  have BA1 := Aside0.mk (blk_below BA0.out hb1)
  have BY1 := Aside0.mk (blk_below BY0.out hb1)
  have BB1 := Aside0.mk (blk_below BB0.out hb1)
  have HBW1 := Aside0.mk hb1
  have HB1 := Aside0.mk (below_then HB0.out HB0.out.size hb1)
  clear hb1
  have z1_0 : w1.cell? ⟨w.heap.size, 0, none⟩ = some (.int .i64 a0_0) := (blk_cell BA1.out 0).trans rfl
  have z1_1 : w1.cell? ⟨w.heap.size, 1, none⟩ = some (.int .i64 a0_1) := (blk_cell BA1.out 1).trans rfl
  have z1_2 : w1.cell? ⟨w.heap.size, 2, none⟩ = some (.int .i64 a0_2) := (blk_cell BA1.out 2).trans rfl
  have z1_3 : w1.cell? ⟨w.heap.size, 3, none⟩ = some (.int .i64 a0_3) := (blk_cell BA1.out 3).trans rfl
  have z1_4 : w1.cell? ⟨w.heap.size, 4, none⟩ = some (.int .i64 a0_4) := (blk_cell BA1.out 4).trans rfl
  have z1_5 : w1.cell? ⟨w.heap.size, 5, none⟩ = some (.slice A0_5 l0_5.length c0_5) := (blk_cell BA1.out 5).trans rfl
  go_wp2_with fail
  refine (may_at a0_0 a0_1 a0_2 a0_3 a0_4 A0_5 c0_5 l0_5 mv w1 (Kd.C_below HR0.out HB1.out) HC0.out HMAY.out).mono ?_
  rintro e w2 ⟨rfl, hb2⟩
  have BA2 := Aside0.mk (blk_below BA1.out hb2)
  have BY2 := Aside0.mk (blk_below BY1.out hb2)
  have BB2 := Aside0.mk (blk_below BB1.out hb2)
  have HBW2 := Aside0.mk (below_then HBW1.out HBW1.out.size hb2)
  have HB2 := Aside0.mk (below_then HB1.out HB1.out.size hb2)
  clear hb2 z1_0 z1_1 z1_2 z1_3 z1_4 z1_5

  cases mv with
  | false =>
    by_cases hneg : at_ < 0
    · have g2 : decide (at_ < 0) = true := decide_eq_true hneg
      clear hat hneg
      go_wp2
      go_ret
      exact ⟨rfl, HB2.out⟩
    · have g2 : decide (at_ < 0) = false := decide_eq_false hneg
      have g3 : decide (252 < at_) = true := decide_eq_true (by omega)
      clear hat hneg
      go_wp2
      go_ret
      exact ⟨rfl, HB2.out⟩
  | true =>
    by_cases hneg : at_ < 0
    · have g2 : decide (at_ < 0) = true := decide_eq_true hneg
      clear hat hneg
      go_wp2
      go_ret
      exact ⟨rfl, HB2.out⟩
    · have g2 : decide (at_ < 0) = false := decide_eq_false hneg
      have g3 : decide (252 < at_) = true := decide_eq_true (by omega)
      clear hat hneg
      go_wp2
      go_ret
      exact ⟨rfl, HB2.out⟩
set_option maxRecDepth 100000 in
set_option maxHeartbeats 8000000 in
theorem calls_few (a0_0 a0_1 a0_2 a0_3 a0_4 : Int) (A0_5 : Option Addr) (c0_5 : Nat) (l0_5 : List Int) (p : Nat) (b0 b1 b2 b3 : Int) (a1_0 a1_1 a1_2 a1_3 a1_4 : Int) (A1_5 : Option Addr) (c1_5 : Nat) (l1_5 : List Int) (w : World) (hr0_5 : Kd.C (Kd.int .u8) w A0_5 l0_5.length l0_5) (hc0_5 : l0_5.length ≤ c0_5) (hr1_5 : Kd.C (Kd.int .u8) w A1_5 l1_5.length l1_5) (hc1_5 : l1_5.length ≤ c1_5) (hob : okB l0_5 = true) (hy : okB [b0, b1, b2, b3] = true) (hp : p ≤ 252) :
    Calls Try.prog 6 #[.agg #[.int .i64 a0_0, .int .i64 a0_1, .int .i64 a0_2, .int .i64 a0_3, .int .i64 a0_4, .slice A0_5 l0_5.length c0_5], .int .i64 p, .agg #[.int .u8 b0, .int .u8 b1, .int .u8 b2, .int .u8 b3], .agg #[.int .i64 a1_0, .int .i64 a1_1, .int .i64 a1_2, .int .i64 a1_3, .int .i64 a1_4, .slice A1_5 l1_5.length c1_5]] w fun e w' => e = .returned (.bool true) ∧ Below w.heap.size w w' := by
  have g2 : decide ((p : Int) < 0) = false := decide_eq_false (by omega)
  have g3 : decide (252 < (p : Int)) = false := decide_eq_false (by omega)
  have HY := Aside0.mk hy
  clear hy
  have hu24 := Try.underlying24
  have hmax0 : l0_5.length ≤ 9223372036854775807 := Kd.C_max hr0_5
  have hmax1 : l1_5.length ≤ 9223372036854775807 := Kd.C_max hr1_5
  have HR0 := Aside0.mk hr0_5
  have HR1 := Aside0.mk hr1_5
  have HC0 := Aside0.mk hc0_5
  have HC1 := Aside0.mk hc1_5
  have HOB := Aside0.mk hob
  clear hr0_5 hc0_5 hr1_5 hc1_5 hob
  obtain ⟨W1, hW1⟩ : ∃ W1, W1 = ((w.alloc (.cells #[.int .i64 a0_0, .int .i64 a0_1, .int .i64 a0_2, .int .i64 a0_3, .int .i64 a0_4, .slice A0_5 l0_5.length c0_5] 24)).alloc (.cells #[.int .u8 b0, .int .u8 b1, .int .u8 b2, .int .u8 b3] 36)).alloc (.cells #[.int .i64 a1_0, .int .i64 a1_1, .int .i64 a1_2, .int .i64 a1_3, .int .i64 a1_4, .slice A1_5 l1_5.length c1_5] 24) := ⟨_, rfl⟩
  have HB0 : Aside0 (Below w.heap.size w W1) := ⟨by rw [hW1]; exact below_alloc (below_alloc (below_alloc (Below.refl _ _) _) _) _⟩
  have BA0 : Aside0 (W1.heap[w.heap.size]? = some (.cells #[.int .i64 a0_0, .int .i64 a0_1, .int .i64 a0_2, .int .i64 a0_3, .int .i64 a0_4, .slice A0_5 l0_5.length c0_5] 24 (0, 0))) := ⟨by rw [hW1]; exact blk_alloc (blk_alloc (heap_alloc_new w _) _) _⟩
  have BY0 : Aside0 (W1.heap[w.heap.size + 1]? = some (.cells #[.int .u8 b0, .int .u8 b1, .int .u8 b2, .int .u8 b3] 36 (0, 0))) := ⟨by
    rw [hW1]
    have := heap_alloc_new (w.alloc (.cells #[.int .i64 a0_0, .int .i64 a0_1, .int .i64 a0_2, .int .i64 a0_3, .int .i64 a0_4, .slice A0_5 l0_5.length c0_5] 24)) (.cells #[.int .u8 b0, .int .u8 b1, .int .u8 b2, .int .u8 b3] 36)
    exact blk_alloc (by simpa using this) _⟩
  have BB0 : Aside0 (W1.heap[w.heap.size + 2]? = some (.cells #[.int .i64 a1_0, .int .i64 a1_1, .int .i64 a1_2, .int .i64 a1_3, .int .i64 a1_4, .slice A1_5 l1_5.length c1_5] 24 (0, 0))) := ⟨by
    rw [hW1]
    have := heap_alloc_new ((w.alloc (.cells #[.int .i64 a0_0, .int .i64 a0_1, .int .i64 a0_2, .int .i64 a0_3, .int .i64 a0_4, .slice A0_5 l0_5.length c0_5] 24)).alloc (.cells #[.int .u8 b0, .int .u8 b1, .int .u8 b2, .int .u8 b3] 36)) (.cells #[.int .i64 a1_0, .int .i64 a1_1, .int .i64 a1_2, .int .i64 a1_3, .int .i64 a1_4, .slice A1_5 l1_5.length c1_5] 24)
    simpa using this⟩
  have HSZ : Aside0 (W1.heap.size = w.heap.size + 3) := ⟨by rw [hW1]; simp⟩
  have HW1 := Aside0.mk hW1
  clear hW1
  have hmay := may_f (k := 1000) (a0 := a0_0) (a1 := a0_1) (a2 := a0_2) (a3 := a0_3) (a4 := a0_4) (l := l0_5) (by omega)
  generalize hmv : (numS a0_0 a0_1 a0_2 a0_3 a0_4 && decide ((l0_5.length : Int) ≤ 228)) = mv at hmay
  have HMAY := Aside0.mk hmay
  have HMV := Aside0.mk hmv
  clear hmay hmv
  go_enter Try.func6, Try.ntmps6
  go_wp2_with fail
  rw [← HW1.out]
  go_wp2_with fail
  refine (quartermasterlaw07_awake.calls true W1 rfl).mono ?_
  rintro e w1 ⟨rfl, hb1⟩
  have BA1 := Aside0.mk (blk_below BA0.out hb1)
  have BY1 := Aside0.mk (blk_below BY0.out hb1)
  have BB1 := Aside0.mk (blk_below BB0.out hb1)
  have HBW1 := Aside0.mk hb1
  have HB1 := Aside0.mk (below_then HB0.out HB0.out.size hb1)
  clear hb1
  have z1_0 : w1.cell? ⟨w.heap.size, 0, none⟩ = some (.int .i64 a0_0) := (blk_cell BA1.out 0).trans rfl
  have z1_1 : w1.cell? ⟨w.heap.size, 1, none⟩ = some (.int .i64 a0_1) := (blk_cell BA1.out 1).trans rfl
  have z1_2 : w1.cell? ⟨w.heap.size, 2, none⟩ = some (.int .i64 a0_2) := (blk_cell BA1.out 2).trans rfl
  have z1_3 : w1.cell? ⟨w.heap.size, 3, none⟩ = some (.int .i64 a0_3) := (blk_cell BA1.out 3).trans rfl
  have z1_4 : w1.cell? ⟨w.heap.size, 4, none⟩ = some (.int .i64 a0_4) := (blk_cell BA1.out 4).trans rfl
  have z1_5 : w1.cell? ⟨w.heap.size, 5, none⟩ = some (.slice A0_5 l0_5.length c0_5) := (blk_cell BA1.out 5).trans rfl
  go_wp2_with fail
  refine (may_at a0_0 a0_1 a0_2 a0_3 a0_4 A0_5 c0_5 l0_5 mv w1 (Kd.C_below HR0.out HB1.out) HC0.out HMAY.out).mono ?_
  rintro e w2 ⟨rfl, hb2⟩
  have BA2 := Aside0.mk (blk_below BA1.out hb2)
  have BY2 := Aside0.mk (blk_below BY1.out hb2)
  have BB2 := Aside0.mk (blk_below BB1.out hb2)
  have HBW2 := Aside0.mk (below_then HBW1.out HBW1.out.size hb2)
  have HB2 := Aside0.mk (below_then HB1.out HB1.out.size hb2)
  clear hb2 z1_0 z1_1 z1_2 z1_3 z1_4 z1_5

  cases mv with
  | false =>
    go_wp2
    go_ret
    exact ⟨rfl, HB2.out⟩
  | true =>
    have hmv := HMV.out
    simp only [Bool.and_eq_true, decide_eq_true_eq] at hmv
    obtain ⟨hn, h2⟩ := hmv
    have h2' : l0_5.length ≤ 228 := by omega
    obtain ⟨S, hS⟩ : ∃ S, S = sealT a0_0 a0_1 a0_2 a0_3 a0_4 l0_5 := ⟨_, rfl⟩
    have hlen : S.length = 256 := by rw [hS]; exact sealT_length h2'
    have q1 : block_Seal.f 1000 a0_0 a0_1 a0_2 a0_3 a0_4 l0_5 = some (S, 0) := by rw [seal_blk (by omega) HOB.out, sealS_ok h2', if_pos hn, hS]
    have q2 : chg [b0, b1, b2, b3] 4 = true → block_Class.f 1000 (turn S [b0, b1, b2, b3] p 4) a1_0 a1_1 a1_2 a1_3 a1_4 l1_5 = some 4 := fun hc => class_turn HOB.out HY.out hp h2' hS hc
    have Q1 := Aside0.mk q1
    have HL := Aside0.mk hlen
    have Q2 := Aside0.mk q2
    clear q1 q2 hlen hS hn h2 h2'
    have z2_0 : w2.cell? ⟨w.heap.size, 0, none⟩ = some (.int .i64 a0_0) := (blk_cell BA2.out 0).trans rfl
    have z2_1 : w2.cell? ⟨w.heap.size, 1, none⟩ = some (.int .i64 a0_1) := (blk_cell BA2.out 1).trans rfl
    have z2_2 : w2.cell? ⟨w.heap.size, 2, none⟩ = some (.int .i64 a0_2) := (blk_cell BA2.out 2).trans rfl
    have z2_3 : w2.cell? ⟨w.heap.size, 3, none⟩ = some (.int .i64 a0_3) := (blk_cell BA2.out 3).trans rfl
    have z2_4 : w2.cell? ⟨w.heap.size, 4, none⟩ = some (.int .i64 a0_4) := (blk_cell BA2.out 4).trans rfl
    have z2_5 : w2.cell? ⟨w.heap.size, 5, none⟩ = some (.slice A0_5 l0_5.length c0_5) := (blk_cell BA2.out 5).trans rfl
    go_wp2_with fail
    refine (seal_at (m := l0_5.length) a0_0 a0_1 a0_2 a0_3 a0_4 A0_5 c0_5 l0_5 S 0 w2 rfl (Kd.C_below HR0.out HB2.out) HC0.out Q1.out).mono ?_
    rintro e w3 ⟨v3, rfl, hv3, hb3⟩
    have BY3 := Aside0.mk (blk_below BY2.out hb3)
    have BB3 := Aside0.mk (blk_below BB2.out hb3)
    have HB3 := Aside0.mk (below_then HB2.out HB2.out.size hb3)
    obtain ⟨g, c2, rfl, hgb, hgl⟩ : ∃ g c2, v3 = .slice (some ⟨g, 0, none⟩) 256 c2 ∧ w2.heap.size ≤ g ∧ 256 ≤ c2 := by
      have ho := Kd.own_of_R hv3
      rcases ho.2 with ⟨_, hx0⟩ | ⟨g, cap, cur, hv, hb, _, hnc, _⟩
      · have := HL.out; omega
      · rw [HL.out] at hv hnc
        exact ⟨g, cap, hv, hb, hnc⟩
    have hgw : w.heap.size + 2 < g := by have := HBW2.out.size; have := HSZ.out; omega
    have HV3 : Aside0 (Kd.R (Kd.int .u8) 5 w3 w2.heap.size (fun _ => True) (.slice (some ⟨g, 0, none⟩) 256 c2) S) := ⟨hv3⟩
    clear hb3 hv3 hgb z2_0 z2_1 z2_2 z2_3 z2_4 z2_5
    go_wp2_with fail
    have HR3 : Aside0 (Kd.R (Kd.int .u8) 5 w3 w2.heap.size (fun _ => True) (.slice (some ⟨g, 0, none⟩) 256 c2) (turn S [b0, b1, b2, b3] p 0)) := HV3
    clear HV3 HB2 HB1 BA0 BY0 BB0 BA1 BY1 BB1 BA2 BY2 BB2 HMAY HMV HW1
    go_loopw [12, 13] (fun v12 v13 wr => ∃ k : Nat, k ≤ 4 ∧ v13 = .int .i64 k ∧ v12 = .bool (chg [b0, b1, b2, b3] k) ∧ Aside0 (Kd.R (Kd.int .u8) 5 wr w2.heap.size (fun _ => True) (.slice (some ⟨g, 0, none⟩) 256 c2) (turn S [b0, b1, b2, b3] p k)) ∧ Aside0 (Below w.heap.size w wr) ∧ Aside0 (wr.heap[w.heap.size + 1]? = some (.cells #[.int .u8 b0, .int .u8 b1, .int .u8 b2, .int .u8 b3] 36 (0, 0))) ∧ Aside0 (wr.heap[w.heap.size + 2]? = some (.cells #[.int .i64 a1_0, .int .i64 a1_1, .int .i64 a1_2, .int .i64 a1_3, .int .i64 a1_4, .slice A1_5 l1_5.length c1_5] 24 (0, 0)))) (fun _ i _ => 4 - (intOf i).toNat)
    case atStart => exact ⟨0, by omega, rfl, rfl, HR3, HB3, BY3, BB3⟩
    case round =>
      clear HR3 HB3 BY3 BB3
      obtain ⟨k, hk, rfl, rfl, HV, HB, HX, HW⟩ := hrel
      by_cases hlt : k < 4
      · have hbk : wr.cell? ⟨w.heap.size + 1, k, none⟩ = some (.int .u8 (rd [b0, b1, b2, b3] k)) := by
          rw [blk_cell HX.out k]
          rcases (by omega : k = 0 ∨ k = 1 ∨ k = 2 ∨ k = 3) with rfl | rfl | rfl | rfl <;> rfl
        have htl : (turn S [b0, b1, b2, b3] p k).length = 256 := by rw [turn_length]; exact HL.out
        have hvr : Kd.R (Kd.int .u8) 5 wr w2.heap.size (fun _ => True) (.slice (some ⟨g, 0, none⟩) (turn S [b0, b1, b2, b3] p k).length c2) (turn S [b0, b1, b2, b3] p k) := by
          rw [htl]; exact HV.out
        obtain ⟨hsk, hfk⟩ := Kd.R_cell (0 : Int) hvr ((p : Int) + (k : Int)) (by omega) (by rw [htl]; omega)
        have HP := Aside0.mk (Kd.R_put hvr ((p : Int) + (k : Int)) (Go.bits .xor .u8 (rd (turn S [b0, b1, b2, b3] p k) ((p : Int) + (k : Int))) (rd [b0, b1, b2, b3] k)))
        have HTL := Aside0.mk htl
        clear hvr htl
        have ea : ((p : Int) + (k : Int)).toNat = p + k := by omega
        rw [ea] at hsk hfk
        have hsk' : wr.cell? ⟨g, p + k, none⟩ = some (.int .u8 (rd (turn S [b0, b1, b2, b3] p k) ((p : Int) + (k : Int)))) := hsk
        clear hsk
        have EA := Aside0.mk ea
        clear ea
        go_wp2
        go_region
        generalize hW : World.drew (World.setCell wr _ _) = wn
        have hR1 : Kd.R (Kd.int .u8) 5 wn w2.heap.size (fun _ => True) (.slice (some ⟨g, 0, none⟩) 256 c2) (turn S [b0, b1, b2, b3] p (k + 1)) := by
          rw [← hW]
          have h1 := HP.out.1
          rw [EA.out, HTL.out] at h1
          exact Kd.R_drew h1
        have hB1 : Below w.heap.size w wn := by
          rw [← hW]
          exact below_drew (HB.out.setCell (p := ⟨g, p + k, none⟩) (by show w.heap.size ≤ g; omega) _)
        have hX1 : wn.heap[w.heap.size + 1]? = some (.cells #[.int .u8 b0, .int .u8 b1, .int .u8 b2, .int .u8 b3] 36 (0, 0)) := by
          rw [← hW]
          exact blk_far HX.out (p := ⟨g, p + k, none⟩) (by show w.heap.size + 1 ≠ g; omega) _
        have hW1 : wn.heap[w.heap.size + 2]? = some (.cells #[.int .i64 a1_0, .int .i64 a1_1, .int .i64 a1_2, .int .i64 a1_3, .int .i64 a1_4, .slice A1_5 l1_5.length c1_5] 24 (0, 0)) := by
          rw [← hW]
          exact blk_far HW.out (p := ⟨g, p + k, none⟩) (by show w.heap.size + 2 ≠ g; omega) _
        have hbk2 : wn.cell? ⟨w.heap.size + 1, k, none⟩ = some (.int .u8 (rd [b0, b1, b2, b3] k)) := by
          rw [blk_cell hX1 k]
          rcases (by omega : k = 0 ∨ k = 1 ∨ k = 2 ∨ k = 3) with rfl | rfl | rfl | rfl <;> rfl
        have HR1 := Aside0.mk hR1
        have HB1 := Aside0.mk hB1
        have HX1 := Aside0.mk hX1
        have HW1 := Aside0.mk hW1
        clear hW hR1 hB1 hX1 hW1 hsk' hfk hbk HP EA HV HB HX HW HTL
        have hch : chg [b0, b1, b2, b3] (k + 1) = (chg [b0, b1, b2, b3] k || (rd [b0, b1, b2, b3] k != 0))   := by
          exact chg_succ _ k (by simp; omega)
        have HCH := Aside0.mk hch
        clear hch
        generalize chg [b0, b1, b2, b3] k = ck at HCH ⊢
        generalize rd [b0, b1, b2, b3] (k : Int) = bk at HCH hbk2 ⊢
        cases ck with
        | true =>
          go_wp2
          exact ⟨⟨k + 1, by omega, by go_num, by rw [HCH.out]; rfl, HR1, HB1, HX1, HW1⟩, by simp [intOf]; omega⟩
        | false =>
          by_cases hz : bk = 0
          · have z1 : (bk == 0) = true := beq_iff_eq.mpr hz
            have z2 : (bk != 0) = false := bne_eq_false_iff_eq.mpr hz
            have Z2 := Aside0.mk z2
            clear hz
            go_wp2
            exact ⟨⟨k + 1, by omega, by go_num, by rw [HCH.out, Z2.out]; rfl, HR1, HB1, HX1, HW1⟩, by simp [intOf]; omega⟩
          · have z1 : (bk == 0) = false := beq_eq_false_iff_ne.mpr hz
            have z2 : (bk != 0) = true := bne_iff_ne.mpr hz
            have Z2 := Aside0.mk z2
            clear hz
            go_wp2
            exact ⟨⟨k + 1, by omega, by go_num, by rw [HCH.out, Z2.out]; rfl, HR1, HB1, HX1, HW1⟩, by simp [intOf]; omega⟩
      · obtain rfl : k = 4 := by omega
        have htl : (turn S [b0, b1, b2, b3] p 4).length = 256 := by rw [turn_length]; exact HL.out
        have hcc := (Kd.R_reads' HV.out).2.2
        rw [htl] at hcc
        have q2 := Q2.out
        generalize chg [b0, b1, b2, b3] 4 = ck at q2 ⊢
        generalize turn S [b0, b1, b2, b3] p 4 = S' at q2 htl hcc
        have HTL := Aside0.mk htl
        have Q2' := Aside0.mk q2
        have HRS : RestS g w S' wr := ⟨hcc, HB.out⟩
        obtain ⟨Z, hZ⟩ : ∃ Z, Z = madeCells #[Value.int .u8 0] 256 := ⟨_, rfl⟩
        have hmk : ∀ W : World, (Instr.makeSlice 22 (.int .i64 256) (.int .i64 256)).run Try.prog W = .ok (.slice (some ⟨W.heap.size, 0, none⟩) 256 256) (W.alloc (.cells Z 5)) := fun W => by
          rw [hZ]; exact print_make 22 5 .u8 1 Try.underlying22 (by kernel_rfl) (by decide) 256 (by decide) W
        have HZC : Aside0 (∀ W : World, Kd.C (Kd.int .u8) (W.alloc (.cells Z 5)) (some ⟨W.heap.size, 0, none⟩) 256 (List.replicate 256 (0 : Int))) := ⟨fun W => by
          rw [hZ]
          have h1 := own_made W W.heap.size 5 .u8 256 (Nat.le_refl _) (by decide)
          have h2 : Kd.R (Kd.int .u8) 5 (W.alloc (.cells (madeCells #[Value.int .u8 0] 256) 5)) W.heap.size (fun _ => True) (.slice (some ⟨W.heap.size, 0, none⟩) 256 256) (List.replicate 256 (0 : Int)) := by
            refine Kd.R_of_own ?_ (fun _ _ => trivial)
            rw [List.length_replicate]
            exact h1
          have h3 := (Kd.R_reads' h2).2.2
          rwa [List.length_replicate] at h3⟩
        have Q3 := Aside0.mk (class_zeros (m := l1_5) (e0 := a1_0) (e1 := a1_1) (e2 := a1_2) (e3 := a1_3) (e4 := a1_4))
        have zw_0 : wr.cell? ⟨(w.heap.size + 2), 0, none⟩ = some (.int .i64 a1_0) := (blk_cell HW.out 0).trans rfl
        have zw_1 : wr.cell? ⟨(w.heap.size + 2), 1, none⟩ = some (.int .i64 a1_1) := (blk_cell HW.out 1).trans rfl
        have zw_2 : wr.cell? ⟨(w.heap.size + 2), 2, none⟩ = some (.int .i64 a1_2) := (blk_cell HW.out 2).trans rfl
        have zw_3 : wr.cell? ⟨(w.heap.size + 2), 3, none⟩ = some (.int .i64 a1_3) := (blk_cell HW.out 3).trans rfl
        have zw_4 : wr.cell? ⟨(w.heap.size + 2), 4, none⟩ = some (.int .i64 a1_4) := (blk_cell HW.out 4).trans rfl
        have zw_5 : wr.cell? ⟨(w.heap.size + 2), 5, none⟩ = some (.slice A1_5 l1_5.length c1_5) := (blk_cell HW.out 5).trans rfl
        clear q2 htl hcc hZ HV HX HB
        clear HOB HY Q1 Q2 HL HBW1 HBW2 HSZ
        cases ck with
        | false =>
          have zx_0 : (wr.alloc (.cells Z 5)).cell? ⟨(w.heap.size + 2), 0, none⟩ = some (.int .i64 a1_0) := (blk_cell (show (wr.alloc (.cells Z 5)).heap[w.heap.size + 2]? = _ from blk_alloc HW.out _) 0).trans rfl
          have zx_1 : (wr.alloc (.cells Z 5)).cell? ⟨(w.heap.size + 2), 1, none⟩ = some (.int .i64 a1_1) := (blk_cell (show (wr.alloc (.cells Z 5)).heap[w.heap.size + 2]? = _ from blk_alloc HW.out _) 1).trans rfl
          have zx_2 : (wr.alloc (.cells Z 5)).cell? ⟨(w.heap.size + 2), 2, none⟩ = some (.int .i64 a1_2) := (blk_cell (show (wr.alloc (.cells Z 5)).heap[w.heap.size + 2]? = _ from blk_alloc HW.out _) 2).trans rfl
          have zx_3 : (wr.alloc (.cells Z 5)).cell? ⟨(w.heap.size + 2), 3, none⟩ = some (.int .i64 a1_3) := (blk_cell (show (wr.alloc (.cells Z 5)).heap[w.heap.size + 2]? = _ from blk_alloc HW.out _) 3).trans rfl
          have zx_4 : (wr.alloc (.cells Z 5)).cell? ⟨(w.heap.size + 2), 4, none⟩ = some (.int .i64 a1_4) := (blk_cell (show (wr.alloc (.cells Z 5)).heap[w.heap.size + 2]? = _ from blk_alloc HW.out _) 4).trans rfl
          have zx_5 : (wr.alloc (.cells Z 5)).cell? ⟨(w.heap.size + 2), 5, none⟩ = some (.slice A1_5 l1_5.length c1_5) := (blk_cell (show (wr.alloc (.cells Z 5)).heap[w.heap.size + 2]? = _ from blk_alloc HW.out _) 5).trans rfl
          go_wp2_with fail
          first | (go_region_with (go_at_call 12; with_reducible refine (class_at (n := 256) (m := l1_5.length) _ 256 (List.replicate 256 (0 : Int)) a1_0 a1_1 a1_2 a1_3 a1_4 A1_5 c1_5 l1_5 4 _ List.length_replicate rfl ?_ (Nat.le_refl _) ?_ HC1.out Q3.out).mono ?_; (first | exact HZC.out _ | exact Kd.C_drew (HZC.out _)); (first | exact Kd.C_below (Kd.C_below HR1.out HRS.b) (below_drew (below_alloc (Below.refl _ _) _)) | exact Kd.C_below (Kd.C_below HR1.out HRS.b) (below_alloc (below_drew (Below.refl _ _)) _)); rintro e w' ⟨rfl, hb⟩)) | fail
          all_goals (go_wp2; go_ret; first | exact ⟨rfl, below_then (below_drew (below_alloc HRS.b _)) (below_drew (below_alloc HRS.b _)).size hb⟩ | exact ⟨rfl, below_then (below_alloc (below_drew HRS.b) _) (below_alloc (below_drew HRS.b) _).size hb⟩)
        | true =>
          go_wp2_with fail
          have q4 := Q2'.out (by trivial)
          first | (go_region_held3 (fun W_ => W_.cell? ⟨w.heap.size + 2, 0, none⟩ = some (.int .i64 a1_0) ∧ W_.cell? ⟨w.heap.size + 2, 1, none⟩ = some (.int .i64 a1_1) ∧ W_.cell? ⟨w.heap.size + 2, 2, none⟩ = some (.int .i64 a1_2) ∧ W_.cell? ⟨w.heap.size + 2, 3, none⟩ = some (.int .i64 a1_3) ∧ W_.cell? ⟨w.heap.size + 2, 4, none⟩ = some (.int .i64 a1_4) ∧ W_.cell? ⟨w.heap.size + 2, 5, none⟩ = some (.slice A1_5 l1_5.length c1_5) ∧ RestS g w S' W_)
            (first | assumption | exact keepS ⟨zw_0, zw_1, zw_2, zw_3, zw_4, zw_5, HRS⟩ (below_drew (Below.refl _ _)) | (refine keepS (W := _) (by assumption) ?_; first | assumption | exact below_alloc (Below.refl _ _) _ | exact below_drew (Below.refl _ _) | exact below_drew (below_alloc (Below.refl _ _) _)))
            (first
              | (go_at_call 12; have hrs := (by assumption : _ ∧ _ ∧ _ ∧ _ ∧ _ ∧ _ ∧ RestS g w S' _).2.2.2.2.2.2; with_reducible refine (class_at (n := 256) (m := l1_5.length) (some ⟨g, 0, none⟩) c2 S' a1_0 a1_1 a1_2 a1_3 a1_4 A1_5 c1_5 l1_5 4 _ HTL.out rfl hrs.c hgl (Kd.C_below HR1.out hrs.b) HC1.out q4).mono ?_; rintro e w' ⟨rfl, hb⟩)
              | (go_at_call 12; have hrs := (by assumption : _ ∧ _ ∧ _ ∧ _ ∧ _ ∧ _ ∧ RestS g w S' _).2.2.2.2.2.2; with_reducible refine (class_at (n := 256) (m := l1_5.length) _ 256 (List.replicate 256 (0 : Int)) a1_0 a1_1 a1_2 a1_3 a1_4 A1_5 c1_5 l1_5 4 _ List.length_replicate rfl ?_ (Nat.le_refl _) (Kd.C_below HR1.out hrs.b) HC1.out Q3.out).mono ?_; (first | exact HZC.out _ | exact Kd.C_drew (HZC.out _)); rintro e w' ⟨rfl, hb⟩))) | fail
          go_wp2
          go_ret
          exact ⟨rfl, (by assumption : _ ∧ _ ∧ _ ∧ _ ∧ _ ∧ _ ∧ RestS g w S' _).2.2.2.2.2.2.b⟩
end Go.Proofs.Ytnpkndbhchmedaa.Few
