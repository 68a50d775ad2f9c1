/- Plain functions, and the walks that show that the Go functions come to them: written by this session's program wip/myprint.py, which runs the kit's print over the translation. No conditions beside those that each contract states. -/
import Derived.Test.YthgganjnodoldaaPx0
import Derived.Test.YthgganjnodoldaaPx1
import Derived.Test.YthgganjnodoldaaExtTrail
import Derived.Test.YthgganjnodoldaaPa
import Derived.Test.YthgganjnodoldaaPaq
namespace Go.Proofs.Ythgganjnodoldaa.Px
open Go.Proofs.Ythgganjnodoldaa.Pa Go.Proofs.Ythgganjnodoldaa.Ext
open Go.RowKit Go.Proofs.YthgganjnodoldaaW.PrintWords Go.Proofs.YthgganjnodoldaaW.PrintLast Go.Proofs.YthgganjnodoldaaW.PrintMore
attribute [local go_sem] max2_int min2_int max_two min_two max_three min_three max_four min_four   -- for this text's walks alone
set_option linter.unusedVariables false
set_option linter.unusedSimpArgs false

/-! ### quartermasterlaw19_TrailSums: function 6 -/
mutual
def quartermasterlaw19_TrailSums.j0 : Nat → List (S35) → Int → Int → Int → Bool → Bool → Option (Bool)
  | 0, _, _, _, _, _, _ => none
  | k + 1, x0, x1, x2, x3, x9, x37 => if x37 = true then (some x9) else ((trail_Sum.f k x0 x1 x2).bind fun bt186 => (if 0 ≤ x3 then (if x3 ≤ (x0.length : Int) then ((trail_Sum.f k (x0.take (x3 : Int).toNat) x1 x2).bind fun bt192 => (if bt186.2 = 0 then (if bt192.2 = 0 then (quartermasterlaw19_TrailSums.l0 k x0 x1 x2 bt186.1 bt192.1 x3) else (some false)) else (some (bt186.1 == 0)))) else (none)) else (none)))
def quartermasterlaw19_TrailSums.l0 : Nat → List (S35) → Int → Int → Int → Int → Int → Option (Bool)
  | 0, _, _, _, _, _, _ => none
  | k + 1, x0, x1, x2, x10, x12, x14 => if x14 < (x0.length : Int) then (if 0 ≤ x14 then (if ((rd_T35 x0 x14).f1) = x1 then (quartermasterlaw19_TrailSums.j2 k x0 x1 x2 x10 x12 x14 (((rd_T35 x0 x14).f2) != x2)) else (quartermasterlaw19_TrailSums.j2 k x0 x1 x2 x10 x12 x14 true)) else (none)) else (some (x12 == x10))
def quartermasterlaw19_TrailSums.j2 : Nat → List (S35) → Int → Int → Int → Int → Int → Bool → Option (Bool)
  | 0, _, _, _, _, _, _, _ => none
  | k + 1, x0, x1, x2, x10, x12, x14, x83 => if x83 = true then (quartermasterlaw19_TrailSums.l0 k x0 x1 x2 x10 x12 (wrap64 (x14 + 1))) else (if 0 ≤ x14 then (if x14 < (x0.length : Int) then (if ((rd_T35 x0 x14).f0) = 4 then (quartermasterlaw19_TrailSums.j3 k x0 x1 x2 x10 x12 x14 true) else (quartermasterlaw19_TrailSums.j3 k x0 x1 x2 x10 x12 x14 (((rd_T35 x0 x14).f0) == 5))) else (none)) else (none))
def quartermasterlaw19_TrailSums.j3 : Nat → List (S35) → Int → Int → Int → Int → Int → Bool → Option (Bool)
  | 0, _, _, _, _, _, _, _ => none
  | k + 1, x0, x1, x2, x10, x12, x14, x97 => if x97 = true then (if 0 ≤ x14 then (if x14 < (x0.length : Int) then (if (wrap64 (x12 - ((rd_T35 x0 x14).f3))) < 0 then (some false) else (quartermasterlaw19_TrailSums.l0 k x0 x1 x2 x10 (wrap64 (x12 - ((rd_T35 x0 x14).f3))) (wrap64 (x14 + 1)))) else (none)) else (none)) else (if 0 ≤ x14 then (if x14 < (x0.length : Int) then (if (wrap64 (x12 + ((rd_T35 x0 x14).f3))) < 0 then (some false) else (quartermasterlaw19_TrailSums.l0 k x0 x1 x2 x10 (wrap64 (x12 + ((rd_T35 x0 x14).f3))) (wrap64 (x14 + 1)))) else (none)) else (none))
end
def quartermasterlaw19_TrailSums.f (k : Nat) (l0 : List (S35)) (a1 : Int) (a2 : Int) (a3 : Int) : Option (Bool) := (quartermasterlaw19_awake.f k).bind fun t184 => (if t184 = true then (if (l0.length : Int) > 100 then (quartermasterlaw19_TrailSums.j0 k l0 a1 a2 a3 t184 true) else (if a3 < 0 then (quartermasterlaw19_TrailSums.j0 k l0 a1 a2 a3 t184 true) else (if a3 > (l0.length : Int) then (quartermasterlaw19_TrailSums.j0 k l0 a1 a2 a3 t184 true) else ((trail_May.f l0).bind fun t185 => (quartermasterlaw19_TrailSums.j0 k l0 a1 a2 a3 t184 (!t185)))))) else (quartermasterlaw19_TrailSums.j0 k l0 a1 a2 a3 t184 true))
theorem quartermasterlaw19_TrailSums.mono_l : ∀ k, (∀ y0 y1 y2 y3 y4 y5, LeO (quartermasterlaw19_TrailSums.j0 k y0 y1 y2 y3 y4 y5) (quartermasterlaw19_TrailSums.j0 (k + 1) y0 y1 y2 y3 y4 y5)) ∧ (∀ y0 y1 y2 y3 y4 y5, LeO (quartermasterlaw19_TrailSums.l0 k y0 y1 y2 y3 y4 y5) (quartermasterlaw19_TrailSums.l0 (k + 1) y0 y1 y2 y3 y4 y5)) ∧ (∀ y0 y1 y2 y3 y4 y5 y6, LeO (quartermasterlaw19_TrailSums.j2 k y0 y1 y2 y3 y4 y5 y6) (quartermasterlaw19_TrailSums.j2 (k + 1) y0 y1 y2 y3 y4 y5 y6)) ∧ (∀ y0 y1 y2 y3 y4 y5 y6, LeO (quartermasterlaw19_TrailSums.j3 k y0 y1 y2 y3 y4 y5 y6) (quartermasterlaw19_TrailSums.j3 (k + 1) y0 y1 y2 y3 y4 y5 y6))
  | 0 => ⟨fun _ _ _ _ _ _ r h => by simp [quartermasterlaw19_TrailSums.j0] at h, fun _ _ _ _ _ _ r h => by simp [quartermasterlaw19_TrailSums.l0] at h, fun _ _ _ _ _ _ _ r h => by simp [quartermasterlaw19_TrailSums.j2] at h, fun _ _ _ _ _ _ _ r h => by simp [quartermasterlaw19_TrailSums.j3] at h⟩
  | k + 1 => by
    obtain ⟨ih0, ih1, ih2, ih3⟩ := quartermasterlaw19_TrailSums.mono_l k
    refine ⟨?_, ?_, ?_, ?_⟩
    · intro y0 y1 y2 y3 y4 y5
      unfold quartermasterlaw19_TrailSums.j0
      repeat' first
      | (with_reducible exact ih0 _ _ _ _ _ _)
      | (with_reducible exact ih1 _ _ _ _ _ _)
      | (with_reducible exact ih2 _ _ _ _ _ _ _)
      | (with_reducible exact ih3 _ _ _ _ _ _ _)
      | (with_reducible exact quartermasterlaw19_awake.mono _)
      | (with_reducible exact trail_Sum.mono _ _ _ _)
      | (with_reducible exact LeO.refl _)
      | (with_reducible exact LeO.none _)
      | (with_reducible refine LeO.ite ?_ ?_)
      | (with_reducible refine LeO.bind ?_ (fun _ => ?_))
      | exact ih0 _ _ _ _ _ _
      | exact ih1 _ _ _ _ _ _
      | exact ih2 _ _ _ _ _ _ _
      | exact ih3 _ _ _ _ _ _ _
      | exact quartermasterlaw19_awake.mono _
      | exact trail_Sum.mono _ _ _ _
      | exact LeO.none _
      | refine LeO.ite ?_ ?_
      | refine LeO.bind ?_ (fun _ => ?_)
    · intro y0 y1 y2 y3 y4 y5
      unfold quartermasterlaw19_TrailSums.l0
      repeat' first
      | (with_reducible exact ih0 _ _ _ _ _ _)
      | (with_reducible exact ih1 _ _ _ _ _ _)
      | (with_reducible exact ih2 _ _ _ _ _ _ _)
      | (with_reducible exact ih3 _ _ _ _ _ _ _)
      | (with_reducible exact quartermasterlaw19_awake.mono _)
      | (with_reducible exact trail_Sum.mono _ _ _ _)
      | (with_reducible exact LeO.refl _)
      | (with_reducible exact LeO.none _)
      | (with_reducible refine LeO.ite ?_ ?_)
      | (with_reducible refine LeO.bind ?_ (fun _ => ?_))
      | exact ih0 _ _ _ _ _ _
      | exact ih1 _ _ _ _ _ _
      | exact ih2 _ _ _ _ _ _ _
      | exact ih3 _ _ _ _ _ _ _
      | exact quartermasterlaw19_awake.mono _
      | exact trail_Sum.mono _ _ _ _
      | exact LeO.none _
      | refine LeO.ite ?_ ?_
      | refine LeO.bind ?_ (fun _ => ?_)
    · intro y0 y1 y2 y3 y4 y5 y6
      unfold quartermasterlaw19_TrailSums.j2
      repeat' first
      | (with_reducible exact ih0 _ _ _ _ _ _)
      | (with_reducible exact ih1 _ _ _ _ _ _)
      | (with_reducible exact ih2 _ _ _ _ _ _ _)
      | (with_reducible exact ih3 _ _ _ _ _ _ _)
      | (with_reducible exact quartermasterlaw19_awake.mono _)
      | (with_reducible exact trail_Sum.mono _ _ _ _)
      | (with_reducible exact LeO.refl _)
      | (with_reducible exact LeO.none _)
      | (with_reducible refine LeO.ite ?_ ?_)
      | (with_reducible refine LeO.bind ?_ (fun _ => ?_))
      | exact ih0 _ _ _ _ _ _
      | exact ih1 _ _ _ _ _ _
      | exact ih2 _ _ _ _ _ _ _
      | exact ih3 _ _ _ _ _ _ _
      | exact quartermasterlaw19_awake.mono _
      | exact trail_Sum.mono _ _ _ _
      | exact LeO.none _
      | refine LeO.ite ?_ ?_
      | refine LeO.bind ?_ (fun _ => ?_)
    · intro y0 y1 y2 y3 y4 y5 y6
      unfold quartermasterlaw19_TrailSums.j3
      repeat' first
      | (with_reducible exact ih0 _ _ _ _ _ _)
      | (with_reducible exact ih1 _ _ _ _ _ _)
      | (with_reducible exact ih2 _ _ _ _ _ _ _)
      | (with_reducible exact ih3 _ _ _ _ _ _ _)
      | (with_reducible exact quartermasterlaw19_awake.mono _)
      | (with_reducible exact trail_Sum.mono _ _ _ _)
      | (with_reducible exact LeO.refl _)
      | (with_reducible exact LeO.none _)
      | (with_reducible refine LeO.ite ?_ ?_)
      | (with_reducible refine LeO.bind ?_ (fun _ => ?_))
      | exact ih0 _ _ _ _ _ _
      | exact ih1 _ _ _ _ _ _
      | exact ih2 _ _ _ _ _ _ _
      | exact ih3 _ _ _ _ _ _ _
      | exact quartermasterlaw19_awake.mono _
      | exact trail_Sum.mono _ _ _ _
      | exact LeO.none _
      | refine LeO.ite ?_ ?_
      | refine LeO.bind ?_ (fun _ => ?_)
theorem quartermasterlaw19_TrailSums.mono : ∀ a0 a1 a2 a3 k, LeO (quartermasterlaw19_TrailSums.f k a0 a1 a2 a3) (quartermasterlaw19_TrailSums.f (k + 1) a0 a1 a2 a3) := by
  intro a0 a1 a2 a3 k
  obtain ⟨ih0, ih1, ih2, ih3⟩ := quartermasterlaw19_TrailSums.mono_l k
  unfold quartermasterlaw19_TrailSums.f
  repeat' first
      | (with_reducible exact ih0 _ _ _ _ _ _)
      | (with_reducible exact ih1 _ _ _ _ _ _)
      | (with_reducible exact ih2 _ _ _ _ _ _ _)
      | (with_reducible exact ih3 _ _ _ _ _ _ _)
      | (with_reducible exact quartermasterlaw19_awake.mono _)
      | (with_reducible exact trail_Sum.mono _ _ _ _)
      | (with_reducible exact LeO.refl _)
      | (with_reducible exact LeO.none _)
      | (with_reducible refine LeO.ite ?_ ?_)
      | (with_reducible refine LeO.bind ?_ (fun _ => ?_))
      | exact ih0 _ _ _ _ _ _
      | exact ih1 _ _ _ _ _ _
      | exact ih2 _ _ _ _ _ _ _
      | exact ih3 _ _ _ _ _ _ _
      | exact quartermasterlaw19_awake.mono _
      | exact trail_Sum.mono _ _ _ _
      | exact LeO.none _
      | refine LeO.ite ?_ ?_
      | refine LeO.bind ?_ (fun _ => ?_)
set_option maxHeartbeats 8000000 in
set_option maxRecDepth 100000 in
theorem quartermasterlaw19_TrailSums.calls (k : Nat) (A0 : Option Addr) (c0 : Nat) (l0 : List (S35)) (a1 : Int) (a2 : Int) (a3 : Int) (r : Bool) (w : World) (hr0 : Kd.C k35 w A0 l0.length l0) (hc0 : l0.length ≤ c0) (h : quartermasterlaw19_TrailSums.f k l0 a1 a2 a3 = some r) :
    Calls Try.prog 6 #[.slice A0 l0.length c0, .int .i64 a1, .int .i64 a2, .int .i64 a3] w fun e w' => e = .returned (.bool r) ∧ Below w.heap.size w w' := by
  have HR0 := Aside0.mk hr0
  have HC0 := Aside0.mk hc0
  clear hr0 hc0
  have HB := Aside0.mk (Below.refl w.heap.size w)
  have H : ((quartermasterlaw19_awake.f k).bind fun t184 => (if t184 = true then (if (l0.length : Int) > 100 then (quartermasterlaw19_TrailSums.j0 k l0 a1 a2 a3 t184 true) else (if a3 < 0 then (quartermasterlaw19_TrailSums.j0 k l0 a1 a2 a3 t184 true) else (if a3 > (l0.length : Int) then (quartermasterlaw19_TrailSums.j0 k l0 a1 a2 a3 t184 true) else ((trail_May.f l0).bind fun t185 => (quartermasterlaw19_TrailSums.j0 k l0 a1 a2 a3 t184 (!t185)))))) else (quartermasterlaw19_TrailSums.j0 k l0 a1 a2 a3 t184 true))) = some r := h
  clear h
  replace H := Option.bind_eq_some_iff.mp H
  obtain ⟨t184, A50, H⟩ := H
  replace H : (if t184 = true then (if (l0.length : Int) > 100 then (quartermasterlaw19_TrailSums.j0 k l0 a1 a2 a3 t184 true) else (if a3 < 0 then (quartermasterlaw19_TrailSums.j0 k l0 a1 a2 a3 t184 true) else (if a3 > (l0.length : Int) then (quartermasterlaw19_TrailSums.j0 k l0 a1 a2 a3 t184 true) else ((trail_May.f l0).bind fun t185 => (quartermasterlaw19_TrailSums.j0 k l0 a1 a2 a3 t184 (!t185)))))) else (quartermasterlaw19_TrailSums.j0 k l0 a1 a2 a3 t184 true)) = some r := H
  have A5 := Aside0.mk A50
  clear A50
  have HC6 := Aside0.mk H
  clear H
  go_enter Try.func6, Try.ntmps6
  go_upto_region 2 with (first | ((with_reducible refine gate_callee (f := 7) rfl ?_); refine goesL_ (some 15) rfl rfl Try.func7 (by kernel_rfl) rfl #[] rfl (by (try simp only [List.map_toArray, List.map_cons, List.map_nil]); first | done | rfl | (simp only [List.length_drop, List.length_take]; rfl)) ?_; (with_reducible refine (quartermasterlaw19_awake.calls k  t184 _ A5.out).mono ?_); rintro e w7 ⟨rfl, hb⟩; refine ⟨_, rfl, ?_⟩; have n0_ := Aside0.mk (below_step (by repeat (first | (with_reducible first | exact HB.out | apply below_alloc | apply pw_below_drewN | apply below_drew1) | exact HB.out)) hb); clear HB; have HB := n0_; clear n0_; (try clear hb); (try clear hb2); (try clear hk); (try clear hi)))
  (try simp only [Act.put, List.setIfInBounds_toArray, List.set_cons_zero, List.set_cons_succ])
  go_cut [37] (fun v37 wc => ∃ (kq : Nat) (x37_5 : Bool), v37 = .bool x37_5 ∧ Aside0 (quartermasterlaw19_TrailSums.j0 kq l0 a1 a2 a3 t184 x37_5 = some r) ∧ Aside0 (kq ≤ k) ∧ Aside0 (Below w.heap.size w wc))
  case first =>
    have H := HC6.out
    clear HC6
    by_cases c8 : t184 = true
    · subst c8
      have H1 : (if (l0.length : Int) > 100 then (quartermasterlaw19_TrailSums.j0 k l0 a1 a2 a3 true true) else (if a3 < 0 then (quartermasterlaw19_TrailSums.j0 k l0 a1 a2 a3 true true) else (if a3 > (l0.length : Int) then (quartermasterlaw19_TrailSums.j0 k l0 a1 a2 a3 true true) else ((trail_May.f l0).bind fun t185 => (quartermasterlaw19_TrailSums.j0 k l0 a1 a2 a3 true (!t185)))))) = some r := by rw [if_pos rfl] at H; exact H
      clear H
      have H := H1
      clear H1
      by_cases c9 : (l0.length : Int) > 100
      · rw [if_pos c9] at H
        have c9b0 : decide (100 < (l0.length : Int)) = true := decide_eq_true c9
        have c9b1 : decide (100 < l0.length) = true := decide_eq_true (by omega)
        clear c9
        (first | rw [c9b0] | (simp only [i64_w, i32_w]; rw [c9b0]) | skip)
        have H' := Aside0.mk H
        clear H
        go_wp2
        go_meet
        case rel => exact ⟨_, (true), (by first | rfl | (simp; done) | (simp [*]; done)), H', ⟨by first | omega | exact Nat.le_refl _⟩, ⟨by repeat (first | (with_reducible first | exact HB.out | apply below_alloc | apply pw_below_drewN | apply below_drew1) | exact HB.out)⟩⟩
      · rw [if_neg c9] at H
        have c9b0 : decide (100 < (l0.length : Int)) = false := decide_eq_false c9
        have c9b1 : decide (100 < l0.length) = false := decide_eq_false (by omega)
        clear c9
        (first | rw [c9b0] | (simp only [i64_w, i32_w]; rw [c9b0]) | skip)
        by_cases c10 : a3 < 0
        · rw [if_pos c10] at H
          have c10b0 : decide (a3 < 0) = true := decide_eq_true c10
          clear c10
          have H' := Aside0.mk H
          clear H
          go_wp2
          go_meet
          case rel => exact ⟨_, (true), (by first | rfl | (simp; done) | (simp [*]; done)), H', ⟨by first | omega | exact Nat.le_refl _⟩, ⟨by repeat (first | (with_reducible first | exact HB.out | apply below_alloc | apply pw_below_drewN | apply below_drew1) | exact HB.out)⟩⟩
        · rw [if_neg c10] at H
          have c10b0 : decide (a3 < 0) = false := decide_eq_false c10
          clear c10
          by_cases c11 : a3 > (l0.length : Int)
          · rw [if_pos c11] at H
            have c11b0 : decide ((l0.length : Int) < a3) = true := decide_eq_true c11
            clear c11
            have H' := Aside0.mk H
            clear H
            go_wp2
            go_meet
            case rel => exact ⟨_, (true), (by first | rfl | (simp; done) | (simp [*]; done)), H', ⟨by first | omega | exact Nat.le_refl _⟩, ⟨by repeat (first | (with_reducible first | exact HB.out | apply below_alloc | apply pw_below_drewN | apply below_drew1) | exact HB.out)⟩⟩
          · rw [if_neg c11] at H
            have c11b0 : decide ((l0.length : Int) < a3) = false := decide_eq_false c11
            clear c11
            replace H := Option.bind_eq_some_iff.mp H
            obtain ⟨t185, A120, H⟩ := H
            replace H : (quartermasterlaw19_TrailSums.j0 k l0 a1 a2 a3 true (!t185)) = some r := H
            have A12 := Aside0.mk A120
            clear A120
            have H' := Aside0.mk H
            clear H
            go_wp2_with (first | (go_at_call 15; (with_reducible refine (trail_May.calls _ _ l0 t185 _ ?side1 ?side2 A12.out).mono ?_); (case side1 => repeat (first | exact (Kd.C_below HR0.out HB.out) | (with_reducible refine Kd.C_alloc ?_ _) | (with_reducible refine Kd.C_drewN ?_ _) | (with_reducible refine Kd.C_drew ?_))); (case side2 => exact HC0.out); rintro e w13 ⟨rfl, hb⟩; have n0_ := Aside0.mk (below_step (by repeat (first | (with_reducible first | exact HB.out | apply below_alloc | apply pw_below_drewN | apply below_drew1) | exact HB.out)) hb); clear HB; have HB := n0_; clear n0_; (try clear hb); (try clear hb2); (try clear hk); (try clear hi)))
            go_meet
            case rel => exact ⟨_, (!t185), (by first | rfl | (simp; done) | (simp [*]; done)), H', ⟨by first | omega | exact Nat.le_refl _⟩, ⟨by repeat (first | (with_reducible first | exact HB.out | apply below_alloc | apply pw_below_drewN | apply below_drew1) | exact HB.out)⟩⟩
    · replace c8 := Bool.eq_false_iff.mpr c8
      subst c8
      have H1 : (quartermasterlaw19_TrailSums.j0 k l0 a1 a2 a3 false true) = some r := by rw [if_neg (show ¬ (false = true) by decide)] at H; exact H
      clear H
      have H := H1
      clear H1
      have H' := Aside0.mk H
      clear H
      go_wp2
      go_meet
      case rel => exact ⟨_, (true), (by first | rfl | (simp; done) | (simp [*]; done)), H', ⟨by first | omega | exact Nat.le_refl _⟩, ⟨by repeat (first | (with_reducible first | exact HB.out | apply below_alloc | apply pw_below_drewN | apply below_drew1) | exact HB.out)⟩⟩
  case rest =>
    clear HC6
    try clear c1
    try clear p2
    try clear c6
    try clear c7
    try clear c8
    try clear c9
    try clear c9b0
    try clear c9b1
    try clear c10
    try clear c10b0
    try clear c11
    try clear c11b0
    obtain ⟨kq, x37_5, rfl, HA, HJ5, HB⟩ := hcut
    cases kq with
    | zero => exact absurd HA.out (by simp [quartermasterlaw19_TrailSums.j0])
    | succ kj5 =>
      have H := HA.out
      clear HA
      simp only [quartermasterlaw19_TrailSums.j0] at H
      by_cases c14 : x37_5 = true
      · subst c14
        have H1 : (some t184) = some r := by rw [if_pos rfl] at H; exact H
        clear H
        have H := H1
        clear H1
        obtain rfl := Option.some.inj H
        go_wp2
        go_ret
        exact ⟨by first | rfl | (simp [errW_none, errW_some] <;> rfl) | (simp [*, errW_none, errW_some] <;> rfl), by repeat (first | (with_reducible first | exact HB.out | apply below_alloc | apply pw_below_drewN | apply below_drew1) | exact HB.out)⟩
      · replace c14 := Bool.eq_false_iff.mpr c14
        subst c14
        have H1 : ((trail_Sum.f kj5 l0 a1 a2).bind fun bt186 => (if 0 ≤ a3 then (if a3 ≤ (l0.length : Int) then ((trail_Sum.f kj5 (l0.take (a3 : Int).toNat) a1 a2).bind fun bt192 => (if bt186.2 = 0 then (if bt192.2 = 0 then (quartermasterlaw19_TrailSums.l0 kj5 l0 a1 a2 bt186.1 bt192.1 a3) else (some false)) else (some (bt186.1 == 0)))) else (none)) else (none))) = some r := by rw [if_neg (show ¬ (false = true) by decide)] at H; exact H
        clear H
        have H := H1
        clear H1
        replace H := Option.bind_eq_some_iff.mp H
        obtain ⟨⟨t186, t187⟩, A150, H⟩ := H
        replace H : (if 0 ≤ a3 then (if a3 ≤ (l0.length : Int) then ((trail_Sum.f kj5 (l0.take (a3 : Int).toNat) a1 a2).bind fun bt192 => (if t187 = 0 then (if bt192.2 = 0 then (quartermasterlaw19_TrailSums.l0 kj5 l0 a1 a2 t186 bt192.1 a3) else (some false)) else (some (t186 == 0)))) else (none)) else (none)) = some r := H
        have A15 := Aside0.mk A150
        clear A150
        by_cases c16 : 0 ≤ a3
        · rw [if_pos c16] at H
          have c16b0 := eq_true c16
          have c16b1 : decide (0 ≤ a3) = true := decide_eq_true c16
          clear c16
          by_cases c17 : a3 ≤ (l0.length : Int)
          · rw [if_pos c17] at H
            have c17b0 := eq_true c17
            have c17b1 : decide (a3 ≤ (l0.length : Int)) = true := decide_eq_true c17
            clear c17
            obtain ⟨y188, hy188⟩ : ∃ y_ : List (S35), y_ = (l0.take (a3 : Int).toNat) := ⟨_, rfl⟩
            replace H : ((trail_Sum.f kj5 y188 a1 a2).bind fun bt192 => (if t187 = 0 then (if bt192.2 = 0 then (quartermasterlaw19_TrailSums.l0 kj5 l0 a1 a2 t186 bt192.1 a3) else (some false)) else (some (t186 == 0)))) = some r := by first | (rw [hy188]; with_reducible exact H) | (have H2_ := (Option.bind_some _ _).symm.trans H; rw [hy188]; with_reducible exact H2_) | (have H2_ := (Option.bind_some _ _).symm.trans H; with_reducible exact H2_) | with_reducible exact H | (rw [hy188]; exact H) | exact H
            have Ny188 := Aside0.mk hy188
            clear hy188
            replace H := Option.bind_eq_some_iff.mp H
            obtain ⟨⟨t192, t193⟩, A180, H⟩ := H
            replace H : (if t187 = 0 then (if t193 = 0 then (quartermasterlaw19_TrailSums.l0 kj5 l0 a1 a2 t186 t192 a3) else (some false)) else (some (t186 == 0))) = some r := H
            have A18 := Aside0.mk A180
            clear A180
            by_cases c19 : t187 = 0
            · rw [if_pos c19] at H
              have c19b0 : (t187 == 0) = true := beq_iff_eq.mpr c19
              have c19b1 : (t187 != 0) = false := bne_eq_false_iff_eq.mpr c19
              clear c19
              by_cases c20 : t193 = 0
              · rw [if_pos c20] at H
                have c20b0 : (t193 == 0) = true := beq_iff_eq.mpr c20
                have c20b1 : (t193 != 0) = false := bne_eq_false_iff_eq.mpr c20
                clear c20
                have H' := Aside0.mk H
                clear H
                go_wp2_with (first | ((with_reducible refine gate_callee (f := 11) rfl ?_); refine goesL_ (some 43) rfl rfl Try.func11 (by kernel_rfl) rfl #[.slice A0 l0.length c0, .int .i64 a1, .int .i64 a2] rfl (by (try simp only [List.map_toArray, List.map_cons, List.map_nil]); first | done | rfl | (simp only [List.length_drop, List.length_take]; rfl)) ?_; (with_reducible refine (trail_Sum.calls kj5 _ _ l0 a1 a2 t186 t187 _ ?side1 ?side2 A15.out).mono ?_); (case side1 => repeat (first | exact (Kd.C_below HR0.out HB.out) | (with_reducible refine Kd.C_alloc ?_ _) | (with_reducible refine Kd.C_drewN ?_ _) | (with_reducible refine Kd.C_drew ?_))); (case side2 => exact HC0.out); rintro e w21 ⟨rfl, hb⟩; refine ⟨_, rfl, ?_⟩; have n0_ := Aside0.mk (below_step (by repeat (first | (with_reducible first | exact HB.out | apply below_alloc | apply pw_below_drewN | apply below_drew1) | exact HB.out)) hb); clear HB; have HB := n0_; clear n0_; (try clear hb); (try clear hb2); (try clear hk); (try clear hi); have q22 : (a3 : Int) ≤ ((l0.length : Int) : Int) := of_decide_eq_true (by first | (with_reducible assumption) | assumption); obtain ⟨i022, hi022, _, hsz22, _⟩ := info_parts info35; have hroom22 : l0.length ≤ c0 := HC0.out; have hC22 : Kd.C k35 _ A0 l0.length l0 := HR0.out; have hcut22 := cut_to (P := Try.prog) 22 35 .i64 Try.underlying22 hi022 A0 l0.length c0 a3 (of_decide_eq_true (by first | (with_reducible assumption) | assumption)) q22 hroom22; have hr22 := Kd.C_take (m := (a3 : Int).toNat) hC22 (by omega); have hy22 : y188.length = (a3 : Int).toNat := (by rw [Ny188.out, List.length_take]; omega); rw [← Ny188.out] at hr22; rw [← hy22] at hcut22; have HR191 := Aside0.mk hr22; have HC191 := Aside0.mk (show y188.length ≤ c0 from by omega); clear hr22 hC22 hroom22 hi022 hsz22; have KY22 := Aside0.mk hy22; clear hy22; replace q22 := eq_true q22) | ((with_reducible refine gate_callee (f := 11) rfl ?_); refine goesL_ (some 52) rfl rfl Try.func11 (by kernel_rfl) rfl #[.slice A0 y188.length c0, .int .i64 a1, .int .i64 a2] rfl (by (try simp only [List.map_toArray, List.map_cons, List.map_nil]); first | done | rfl | (simp only [List.length_drop, List.length_take]; rfl)) ?_; (with_reducible refine (trail_Sum.calls kj5 _ _ y188 a1 a2 t192 t193 _ ?side1 ?side2 A18.out).mono ?_); (case side1 => repeat (first | exact (Kd.C_below HR191.out HB.out) | (with_reducible refine Kd.C_alloc ?_ _) | (with_reducible refine Kd.C_drewN ?_ _) | (with_reducible refine Kd.C_drew ?_))); (case side2 => exact HC191.out); rintro e w23 ⟨rfl, hb⟩; refine ⟨_, rfl, ?_⟩; have n0_ := Aside0.mk (below_step (by repeat (first | (with_reducible first | exact HB.out | apply below_alloc | apply pw_below_drewN | apply below_drew1) | exact HB.out)) hb); clear HB; have HB := n0_; clear n0_; (try clear hb); (try clear hb2); (try clear hk); (try clear hi)))
                go_loopg [12, 14] kj5 (fun kq v12 v14 w' => ∃ (x12_2 : Int) (x14_2 : Int), v12 = .int .i64 x12_2 ∧ v14 = .int .i64 x14_2 ∧ Aside0 (quartermasterlaw19_TrailSums.l0 kq l0 a1 a2 t186 x12_2 x14_2 = some r) ∧ Aside0 (kq ≤ kj5) ∧ Aside0 (Below w.heap.size w w'))
                case atStart => exact ⟨(t192), (a3), (by first | rfl | (simp; done) | (simp [*]; done)), (by first | rfl | (simp; done) | (simp [*]; done)), H', ⟨Nat.le_refl _⟩, ⟨by repeat (first | (with_reducible first | exact HB.out | apply below_alloc | apply pw_below_drewN | apply below_drew1) | exact HB.out)⟩⟩
                case round =>
                  clear H'
                  try clear c1
                  try clear c2
                  try clear p2
                  try clear q2
                  try clear c6
                  try clear c7
                  try clear c8
                  try clear c9
                  try clear c9b0
                  try clear c9b1
                  try clear c10
                  try clear c10b0
                  try clear c11
                  try clear c11b0
                  try clear c14
                  try clear c16
                  try clear c16b0
                  try clear c16b1
                  try clear c17
                  try clear c17b0
                  try clear c17b1
                  try clear c19
                  try clear c19b0
                  try clear c19b1
                  try clear c20
                  try clear c20b0
                  try clear c20b1
                  try clear q22
                  try clear p2
                  try clear q22
                  obtain ⟨x12_2, x14_2, rfl, rfl, HA, HK2, HB⟩ := hrel
                  cases gk with
                  | zero => exact absurd HA.out (by simp [quartermasterlaw19_TrailSums.l0])
                  | succ k2 =>
                    have H := HA.out
                    clear HA
                    simp only [quartermasterlaw19_TrailSums.l0] at H
                    by_cases c24 : x14_2 < (l0.length : Int)
                    · rw [if_pos c24] at H
                      have c24b0 : decide (x14_2 < (l0.length : Int)) = true := decide_eq_true c24
                      clear c24
                      have HC25 := Aside0.mk H
                      clear H
                      go_upto_region 13 with (fail)
                      go_cut [83] (fun v83 wc => ∃ (kq : Nat) (x83_24 : Bool), v83 = .bool x83_24 ∧ Aside0 (quartermasterlaw19_TrailSums.j2 kq l0 a1 a2 t186 x12_2 x14_2 x83_24 = some r) ∧ Aside0 (kq ≤ k2) ∧ Aside0 (Below w.heap.size w wc))
                      case first =>
                        have H := HC25.out
                        clear HC25
                        by_cases c26 : 0 ≤ x14_2
                        · rw [if_pos c26] at H
                          have c26b0 : decide (0 ≤ x14_2) = true := decide_eq_true c26
                          clear c26
                          (first | rw [c26b0] | (simp only [i64_w, i32_w]; rw [c26b0]) | skip)
                          by_cases c27 : ((rd_T35 l0 x14_2).f1) = a1
                          · rw [if_pos c27] at H
                            have c27b0 : (((rd_T35 l0 x14_2).f1) == a1) = true := beq_iff_eq.mpr c27
                            have c27b1 : (((rd_T35 l0 x14_2).f1) != a1) = false := bne_eq_false_iff_eq.mpr c27
                            clear c27
                            have H' := Aside0.mk H
                            clear H
                            have p194 : 0 ≤ (x14_2 : Int) := of_decide_eq_true (by first | (with_reducible assumption) | assumption)
                            have q194 : x14_2 < (l0.length : Int) := of_decide_eq_true (by first | (with_reducible assumption) | assumption)
                            obtain ⟨ad194, e194, hx194_0, hx194_1, hx194_2, hx194_3⟩ := at_T35 HR0.out x14_2 p194 q194
                            cases e194
                            replace hx194_0 := (HB.out.cell (World.block_lt_of_cell? w _ hx194_0)).trans hx194_0
                            replace hx194_1 := (HB.out.cell (World.block_lt_of_cell? w _ hx194_1)).trans hx194_1
                            replace hx194_2 := (HB.out.cell (World.block_lt_of_cell? w _ hx194_2)).trans hx194_2
                            replace hx194_3 := (HB.out.cell (World.block_lt_of_cell? w _ hx194_3)).trans hx194_3
                            replace p194 := eq_true p194
                            replace q194 := eq_true q194
                            have p195 : 0 ≤ (x14_2 : Int) := of_decide_eq_true (by first | (with_reducible assumption) | assumption)
                            have q195 : x14_2 < (l0.length : Int) := of_decide_eq_true (by first | (with_reducible assumption) | assumption)
                            obtain ⟨ad195, e195, hx195_0, hx195_1, hx195_2, hx195_3⟩ := at_T35 HR0.out x14_2 p195 q195
                            obtain rfl : ad194 = ad195 := (by injection e195)
                            replace hx195_0 := (HB.out.cell (World.block_lt_of_cell? w _ hx195_0)).trans hx195_0
                            replace hx195_1 := (HB.out.cell (World.block_lt_of_cell? w _ hx195_1)).trans hx195_1
                            replace hx195_2 := (HB.out.cell (World.block_lt_of_cell? w _ hx195_2)).trans hx195_2
                            replace hx195_3 := (HB.out.cell (World.block_lt_of_cell? w _ hx195_3)).trans hx195_3
                            replace p195 := eq_true p195
                            replace q195 := eq_true q195
                            go_wp2
                            go_meet
                            case rel => exact ⟨_, ((((rd_T35 l0 x14_2).f2) != a2)), (by first | rfl | (simp; done) | (simp [*]; done)), H', ⟨by have := HJ5.out; have := HK2.out; first | omega | exact Nat.le_refl _⟩, ⟨by repeat (first | (with_reducible first | exact HB.out | apply below_alloc | apply pw_below_drewN | apply below_drew1) | exact HB.out)⟩⟩
                          · rw [if_neg c27] at H
                            have c27b0 : (((rd_T35 l0 x14_2).f1) == a1) = false := beq_eq_false_iff_ne.mpr c27
                            have c27b1 : (((rd_T35 l0 x14_2).f1) != a1) = true := bne_iff_ne.mpr c27
                            have H' := Aside0.mk H
                            clear H
                            have p194 : 0 ≤ (x14_2 : Int) := of_decide_eq_true (by first | (with_reducible assumption) | assumption)
                            have q194 : x14_2 < (l0.length : Int) := of_decide_eq_true (by first | (with_reducible assumption) | assumption)
                            obtain ⟨ad194, e194, hx194_0, hx194_1, hx194_2, hx194_3⟩ := at_T35 HR0.out x14_2 p194 q194
                            cases e194
                            replace hx194_0 := (HB.out.cell (World.block_lt_of_cell? w _ hx194_0)).trans hx194_0
                            replace hx194_1 := (HB.out.cell (World.block_lt_of_cell? w _ hx194_1)).trans hx194_1
                            replace hx194_2 := (HB.out.cell (World.block_lt_of_cell? w _ hx194_2)).trans hx194_2
                            replace hx194_3 := (HB.out.cell (World.block_lt_of_cell? w _ hx194_3)).trans hx194_3
                            replace p194 := eq_true p194
                            replace q194 := eq_true q194
                            go_wp2
                            go_meet
                            case rel => exact ⟨_, (true), (by first | rfl | (simp; done) | (simp [*]; done)), H', ⟨by have := HJ5.out; have := HK2.out; first | omega | exact Nat.le_refl _⟩, ⟨by repeat (first | (with_reducible first | exact HB.out | apply below_alloc | apply pw_below_drewN | apply below_drew1) | exact HB.out)⟩⟩
                        · rw [if_neg c26] at H
                          exact absurd H (by simp)
                      case rest =>
                        clear HC25
                        try clear c1
                        try clear p1
                        try clear q1
                        try clear hx1
                        try clear c2
                        try clear p2
                        try clear q2
                        try clear c6
                        try clear c7
                        try clear c8
                        try clear c9
                        try clear c9b0
                        try clear c9b1
                        try clear c10
                        try clear c10b0
                        try clear c11
                        try clear c11b0
                        try clear c14
                        try clear c16
                        try clear c16b0
                        try clear c16b1
                        try clear c17
                        try clear c17b0
                        try clear c17b1
                        try clear c19
                        try clear c19b0
                        try clear c19b1
                        try clear p19
                        try clear q19
                        try clear hx19
                        try clear c20
                        try clear c20b0
                        try clear c20b1
                        try clear q22
                        try clear c24
                        try clear c24b0
                        try clear c26
                        try clear c26b0
                        try clear c27
                        try clear c27b0
                        try clear c27b1
                        try clear hx194_0
                        try clear hx194_1
                        try clear hx194_2
                        try clear hx194_3
                        try clear hx195_0
                        try clear hx195_1
                        try clear hx195_2
                        try clear hx195_3
                        try clear p194
                        try clear p195
                        try clear p2
                        try clear q194
                        try clear q195
                        try clear q2
                        try clear q22
                        obtain ⟨kq, x83_24, rfl, HA, HJ24, HB⟩ := hcut
                        cases kq with
                        | zero => exact absurd HA.out (by simp [quartermasterlaw19_TrailSums.j2])
                        | succ kj24 =>
                          have H := HA.out
                          clear HA
                          simp only [quartermasterlaw19_TrailSums.j2] at H
                          by_cases c28 : x83_24 = true
                          · subst c28
                            have H1 : (quartermasterlaw19_TrailSums.l0 kj24 l0 a1 a2 t186 x12_2 (wrap64 (x14_2 + 1))) = some r := by rw [if_pos rfl] at H; exact H
                            clear H
                            have H := H1
                            clear H1
                            have H' := Aside0.mk H
                            clear H
                            go_wp2
                            go_roundg kj24
                            case measure => have := HJ5.out; have := HK2.out; have := HJ24.out; omega
                            case rel => exact ⟨(x12_2), (wrap64 (x14_2 + 1)), (by first | rfl | (simp; done) | (simp [*]; done)), (by first | rfl | (simp; done) | (simp [*]; done)), H', ⟨by have := HJ5.out; have := HK2.out; have := HJ24.out; omega⟩, ⟨by repeat (first | (with_reducible first | exact HB.out | apply below_alloc | apply pw_below_drewN | apply below_drew1) | exact HB.out)⟩⟩
                          · replace c28 := Bool.eq_false_iff.mpr c28
                            subst c28
                            have H1 : (if 0 ≤ x14_2 then (if x14_2 < (l0.length : Int) then (if ((rd_T35 l0 x14_2).f0) = 4 then (quartermasterlaw19_TrailSums.j3 kj24 l0 a1 a2 t186 x12_2 x14_2 true) else (quartermasterlaw19_TrailSums.j3 kj24 l0 a1 a2 t186 x12_2 x14_2 (((rd_T35 l0 x14_2).f0) == 5))) else (none)) else (none)) = some r := by rw [if_neg (show ¬ (false = true) by decide)] at H; exact H
                            clear H
                            have H := H1
                            clear H1
                            have HC29 := Aside0.mk H
                            clear H
                            go_upto_region 14 with (fail)
                            go_cut [97] (fun v97 wc => ∃ (kq : Nat) (x97_28 : Bool), v97 = .bool x97_28 ∧ Aside0 (quartermasterlaw19_TrailSums.j3 kq l0 a1 a2 t186 x12_2 x14_2 x97_28 = some r) ∧ Aside0 (kq ≤ kj24) ∧ Aside0 (Below w.heap.size w wc))
                            case first =>
                              have H := HC29.out
                              clear HC29
                              by_cases c30 : 0 ≤ x14_2
                              · rw [if_pos c30] at H
                                have c30b0 : decide (0 ≤ x14_2) = true := decide_eq_true c30
                                clear c30
                                (first | rw [c30b0] | (simp only [i64_w, i32_w]; rw [c30b0]) | skip)
                                by_cases c31 : x14_2 < (l0.length : Int)
                                · rw [if_pos c31] at H
                                  have c31b0 : decide (x14_2 < (l0.length : Int)) = true := decide_eq_true c31
                                  clear c31
                                  by_cases c32 : ((rd_T35 l0 x14_2).f0) = 4
                                  · rw [if_pos c32] at H
                                    have c32b0 : (((rd_T35 l0 x14_2).f0) == 4) = true := beq_iff_eq.mpr c32
                                    have c32b1 : (((rd_T35 l0 x14_2).f0) != 4) = false := bne_eq_false_iff_eq.mpr c32
                                    clear c32
                                    have H' := Aside0.mk H
                                    clear H
                                    have p196 : 0 ≤ (x14_2 : Int) := of_decide_eq_true (by first | (with_reducible assumption) | assumption)
                                    have q196 : x14_2 < (l0.length : Int) := of_decide_eq_true (by first | (with_reducible assumption) | assumption)
                                    obtain ⟨ad196, e196, hx196_0, hx196_1, hx196_2, hx196_3⟩ := at_T35 HR0.out x14_2 p196 q196
                                    cases e196
                                    replace hx196_0 := (HB.out.cell (World.block_lt_of_cell? w _ hx196_0)).trans hx196_0
                                    replace hx196_1 := (HB.out.cell (World.block_lt_of_cell? w _ hx196_1)).trans hx196_1
                                    replace hx196_2 := (HB.out.cell (World.block_lt_of_cell? w _ hx196_2)).trans hx196_2
                                    replace hx196_3 := (HB.out.cell (World.block_lt_of_cell? w _ hx196_3)).trans hx196_3
                                    replace p196 := eq_true p196
                                    replace q196 := eq_true q196
                                    go_wp2
                                    go_meet
                                    case rel => exact ⟨_, (true), (by first | rfl | (simp; done) | (simp [*]; done)), H', ⟨by have := HJ5.out; have := HK2.out; have := HJ24.out; first | omega | exact Nat.le_refl _⟩, ⟨by repeat (first | (with_reducible first | exact HB.out | apply below_alloc | apply pw_below_drewN | apply below_drew1) | exact HB.out)⟩⟩
                                  · rw [if_neg c32] at H
                                    have c32b0 : (((rd_T35 l0 x14_2).f0) == 4) = false := beq_eq_false_iff_ne.mpr c32
                                    have c32b1 : (((rd_T35 l0 x14_2).f0) != 4) = true := bne_iff_ne.mpr c32
                                    have H' := Aside0.mk H
                                    clear H
                                    have p196 : 0 ≤ (x14_2 : Int) := of_decide_eq_true (by first | (with_reducible assumption) | assumption)
                                    have q196 : x14_2 < (l0.length : Int) := of_decide_eq_true (by first | (with_reducible assumption) | assumption)
                                    obtain ⟨ad196, e196, hx196_0, hx196_1, hx196_2, hx196_3⟩ := at_T35 HR0.out x14_2 p196 q196
                                    cases e196
                                    replace hx196_0 := (HB.out.cell (World.block_lt_of_cell? w _ hx196_0)).trans hx196_0
                                    replace hx196_1 := (HB.out.cell (World.block_lt_of_cell? w _ hx196_1)).trans hx196_1
                                    replace hx196_2 := (HB.out.cell (World.block_lt_of_cell? w _ hx196_2)).trans hx196_2
                                    replace hx196_3 := (HB.out.cell (World.block_lt_of_cell? w _ hx196_3)).trans hx196_3
                                    replace p196 := eq_true p196
                                    replace q196 := eq_true q196
                                    have p197 : 0 ≤ (x14_2 : Int) := of_decide_eq_true (by first | (with_reducible assumption) | assumption)
                                    have q197 : x14_2 < (l0.length : Int) := of_decide_eq_true (by first | (with_reducible assumption) | assumption)
                                    obtain ⟨ad197, e197, hx197_0, hx197_1, hx197_2, hx197_3⟩ := at_T35 HR0.out x14_2 p197 q197
                                    obtain rfl : ad196 = ad197 := (by injection e197)
                                    replace hx197_0 := (HB.out.cell (World.block_lt_of_cell? w _ hx197_0)).trans hx197_0
                                    replace hx197_1 := (HB.out.cell (World.block_lt_of_cell? w _ hx197_1)).trans hx197_1
                                    replace hx197_2 := (HB.out.cell (World.block_lt_of_cell? w _ hx197_2)).trans hx197_2
                                    replace hx197_3 := (HB.out.cell (World.block_lt_of_cell? w _ hx197_3)).trans hx197_3
                                    replace p197 := eq_true p197
                                    replace q197 := eq_true q197
                                    go_wp2
                                    go_meet
                                    case rel => exact ⟨_, ((((rd_T35 l0 x14_2).f0) == 5)), (by first | rfl | (simp; done) | (simp [*]; done)), H', ⟨by have := HJ5.out; have := HK2.out; have := HJ24.out; first | omega | exact Nat.le_refl _⟩, ⟨by repeat (first | (with_reducible first | exact HB.out | apply below_alloc | apply pw_below_drewN | apply below_drew1) | exact HB.out)⟩⟩
                                · rw [if_neg c31] at H
                                  exact absurd H (by simp)
                              · rw [if_neg c30] at H
                                exact absurd H (by simp)
                            case rest =>
                              clear HC29
                              try clear c1
                              try clear p1
                              try clear q1
                              try clear hx1
                              try clear c2
                              try clear p2
                              try clear q2
                              try clear c3
                              try clear c6
                              try clear p6
                              try clear c7
                              try clear c8
                              try clear c9
                              try clear c9b0
                              try clear c9b1
                              try clear c10
                              try clear c10b0
                              try clear c11
                              try clear c11b0
                              try clear c14
                              try clear c16
                              try clear c16b0
                              try clear c16b1
                              try clear c17
                              try clear c17b0
                              try clear c17b1
                              try clear c19
                              try clear c19b0
                              try clear c19b1
                              try clear p19
                              try clear q19
                              try clear hx19
                              try clear c20
                              try clear c20b0
                              try clear c20b1
                              try clear q22
                              try clear c24
                              try clear c24b0
                              try clear c26
                              try clear c26b0
                              try clear c27
                              try clear c27b0
                              try clear c27b1
                              try clear c28
                              try clear c30
                              try clear c30b0
                              try clear c31
                              try clear c31b0
                              try clear c32
                              try clear c32b0
                              try clear c32b1
                              try clear hx194_0
                              try clear hx194_1
                              try clear hx194_2
                              try clear hx194_3
                              try clear hx195_0
                              try clear hx195_1
                              try clear hx195_2
                              try clear hx195_3
                              try clear hx196_0
                              try clear hx196_1
                              try clear hx196_2
                              try clear hx196_3
                              try clear hx197_0
                              try clear hx197_1
                              try clear hx197_2
                              try clear hx197_3
                              try clear p1
                              try clear p19
                              try clear p194
                              try clear p195
                              try clear p196
                              try clear p197
                              try clear p2
                              try clear q1
                              try clear q19
                              try clear q194
                              try clear q195
                              try clear q196
                              try clear q197
                              try clear q2
                              try clear q22
                              obtain ⟨kq, x97_28, rfl, HA, HJ28, HB⟩ := hcut
                              cases kq with
                              | zero => exact absurd HA.out (by simp [quartermasterlaw19_TrailSums.j3])
                              | succ kj28 =>
                                have H := HA.out
                                clear HA
                                simp only [quartermasterlaw19_TrailSums.j3] at H
                                by_cases c33 : x97_28 = true
                                · subst c33
                                  have H1 : (if 0 ≤ x14_2 then (if x14_2 < (l0.length : Int) then (if (wrap64 (x12_2 - ((rd_T35 l0 x14_2).f3))) < 0 then (some false) else (quartermasterlaw19_TrailSums.l0 kj28 l0 a1 a2 t186 (wrap64 (x12_2 - ((rd_T35 l0 x14_2).f3))) (wrap64 (x14_2 + 1)))) else (none)) else (none)) = some r := by rw [if_pos rfl] at H; exact H
                                  clear H
                                  have H := H1
                                  clear H1
                                  by_cases c34 : 0 ≤ x14_2
                                  · rw [if_pos c34] at H
                                    have c34b0 : decide (0 ≤ x14_2) = true := decide_eq_true c34
                                    clear c34
                                    by_cases c35 : x14_2 < (l0.length : Int)
                                    · rw [if_pos c35] at H
                                      have c35b0 : decide (x14_2 < (l0.length : Int)) = true := decide_eq_true c35
                                      clear c35
                                      by_cases c36 : (wrap64 (x12_2 - ((rd_T35 l0 x14_2).f3))) < 0
                                      · rw [if_pos c36] at H
                                        have c36b0 : decide ((wrap64 (x12_2 - ((rd_T35 l0 x14_2).f3))) < 0) = true := decide_eq_true c36
                                        clear c36
                                        obtain rfl := Option.some.inj H
                                        have p198 : 0 ≤ (x14_2 : Int) := of_decide_eq_true (by first | (with_reducible assumption) | assumption)
                                        have q198 : x14_2 < (l0.length : Int) := of_decide_eq_true (by first | (with_reducible assumption) | assumption)
                                        obtain ⟨ad198, e198, hx198_0, hx198_1, hx198_2, hx198_3⟩ := at_T35 HR0.out x14_2 p198 q198
                                        cases e198
                                        replace hx198_0 := (HB.out.cell (World.block_lt_of_cell? w _ hx198_0)).trans hx198_0
                                        replace hx198_1 := (HB.out.cell (World.block_lt_of_cell? w _ hx198_1)).trans hx198_1
                                        replace hx198_2 := (HB.out.cell (World.block_lt_of_cell? w _ hx198_2)).trans hx198_2
                                        replace hx198_3 := (HB.out.cell (World.block_lt_of_cell? w _ hx198_3)).trans hx198_3
                                        replace p198 := eq_true p198
                                        replace q198 := eq_true q198
                                        go_wp2
                                        go_ret
                                        exact ⟨by first | rfl | (simp [errW_none, errW_some] <;> rfl) | (simp [*, errW_none, errW_some] <;> rfl), by repeat (first | (with_reducible first | exact HB.out | apply below_alloc | apply pw_below_drewN | apply below_drew1) | exact HB.out)⟩
                                      · rw [if_neg c36] at H
                                        have c36b0 : decide ((wrap64 (x12_2 - ((rd_T35 l0 x14_2).f3))) < 0) = false := decide_eq_false c36
                                        clear c36
                                        have H' := Aside0.mk H
                                        clear H
                                        have p198 : 0 ≤ (x14_2 : Int) := of_decide_eq_true (by first | (with_reducible assumption) | assumption)
                                        have q198 : x14_2 < (l0.length : Int) := of_decide_eq_true (by first | (with_reducible assumption) | assumption)
                                        obtain ⟨ad198, e198, hx198_0, hx198_1, hx198_2, hx198_3⟩ := at_T35 HR0.out x14_2 p198 q198
                                        cases e198
                                        replace hx198_0 := (HB.out.cell (World.block_lt_of_cell? w _ hx198_0)).trans hx198_0
                                        replace hx198_1 := (HB.out.cell (World.block_lt_of_cell? w _ hx198_1)).trans hx198_1
                                        replace hx198_2 := (HB.out.cell (World.block_lt_of_cell? w _ hx198_2)).trans hx198_2
                                        replace hx198_3 := (HB.out.cell (World.block_lt_of_cell? w _ hx198_3)).trans hx198_3
                                        replace p198 := eq_true p198
                                        replace q198 := eq_true q198
                                        go_wp2
                                        go_roundg kj28
                                        case measure => have := HJ5.out; have := HK2.out; have := HJ24.out; have := HJ28.out; omega
                                        case rel => exact ⟨(wrap64 (x12_2 - ((rd_T35 l0 x14_2).f3))), (wrap64 (x14_2 + 1)), (by first | rfl | (simp; done) | (simp [*]; done)), (by first | rfl | (simp; done) | (simp [*]; done)), H', ⟨by have := HJ5.out; have := HK2.out; have := HJ24.out; have := HJ28.out; omega⟩, ⟨by repeat (first | (with_reducible first | exact HB.out | apply below_alloc | apply pw_below_drewN | apply below_drew1) | exact HB.out)⟩⟩
                                    · rw [if_neg c35] at H
                                      exact absurd H (by simp)
                                  · rw [if_neg c34] at H
                                    exact absurd H (by simp)
                                · replace c33 := Bool.eq_false_iff.mpr c33
                                  subst c33
                                  have H1 : (if 0 ≤ x14_2 then (if x14_2 < (l0.length : Int) then (if (wrap64 (x12_2 + ((rd_T35 l0 x14_2).f3))) < 0 then (some false) else (quartermasterlaw19_TrailSums.l0 kj28 l0 a1 a2 t186 (wrap64 (x12_2 + ((rd_T35 l0 x14_2).f3))) (wrap64 (x14_2 + 1)))) else (none)) else (none)) = some r := by rw [if_neg (show ¬ (false = true) by decide)] at H; exact H
                                  clear H
                                  have H := H1
                                  clear H1
                                  by_cases c37 : 0 ≤ x14_2
                                  · rw [if_pos c37] at H
                                    have c37b0 : decide (0 ≤ x14_2) = true := decide_eq_true c37
                                    clear c37
                                    by_cases c38 : x14_2 < (l0.length : Int)
                                    · rw [if_pos c38] at H
                                      have c38b0 : decide (x14_2 < (l0.length : Int)) = true := decide_eq_true c38
                                      clear c38
                                      by_cases c39 : (wrap64 (x12_2 + ((rd_T35 l0 x14_2).f3))) < 0
                                      · rw [if_pos c39] at H
                                        have c39b0 : decide ((wrap64 (x12_2 + ((rd_T35 l0 x14_2).f3))) < 0) = true := decide_eq_true c39
                                        clear c39
                                        obtain rfl := Option.some.inj H
                                        have p199 : 0 ≤ (x14_2 : Int) := of_decide_eq_true (by first | (with_reducible assumption) | assumption)
                                        have q199 : x14_2 < (l0.length : Int) := of_decide_eq_true (by first | (with_reducible assumption) | assumption)
                                        obtain ⟨ad199, e199, hx199_0, hx199_1, hx199_2, hx199_3⟩ := at_T35 HR0.out x14_2 p199 q199
                                        cases e199
                                        replace hx199_0 := (HB.out.cell (World.block_lt_of_cell? w _ hx199_0)).trans hx199_0
                                        replace hx199_1 := (HB.out.cell (World.block_lt_of_cell? w _ hx199_1)).trans hx199_1
                                        replace hx199_2 := (HB.out.cell (World.block_lt_of_cell? w _ hx199_2)).trans hx199_2
                                        replace hx199_3 := (HB.out.cell (World.block_lt_of_cell? w _ hx199_3)).trans hx199_3
                                        replace p199 := eq_true p199
                                        replace q199 := eq_true q199
                                        go_wp2
                                        go_ret
                                        exact ⟨by first | rfl | (simp [errW_none, errW_some] <;> rfl) | (simp [*, errW_none, errW_some] <;> rfl), by repeat (first | (with_reducible first | exact HB.out | apply below_alloc | apply pw_below_drewN | apply below_drew1) | exact HB.out)⟩
                                      · rw [if_neg c39] at H
                                        have c39b0 : decide ((wrap64 (x12_2 + ((rd_T35 l0 x14_2).f3))) < 0) = false := decide_eq_false c39
                                        clear c39
                                        have H' := Aside0.mk H
                                        clear H
                                        have p199 : 0 ≤ (x14_2 : Int) := of_decide_eq_true (by first | (with_reducible assumption) | assumption)
                                        have q199 : x14_2 < (l0.length : Int) := of_decide_eq_true (by first | (with_reducible assumption) | assumption)
                                        obtain ⟨ad199, e199, hx199_0, hx199_1, hx199_2, hx199_3⟩ := at_T35 HR0.out x14_2 p199 q199
                                        cases e199
                                        replace hx199_0 := (HB.out.cell (World.block_lt_of_cell? w _ hx199_0)).trans hx199_0
                                        replace hx199_1 := (HB.out.cell (World.block_lt_of_cell? w _ hx199_1)).trans hx199_1
                                        replace hx199_2 := (HB.out.cell (World.block_lt_of_cell? w _ hx199_2)).trans hx199_2
                                        replace hx199_3 := (HB.out.cell (World.block_lt_of_cell? w _ hx199_3)).trans hx199_3
                                        replace p199 := eq_true p199
                                        replace q199 := eq_true q199
                                        go_wp2
                                        go_roundg kj28
                                        case measure => have := HJ5.out; have := HK2.out; have := HJ24.out; have := HJ28.out; omega
                                        case rel => exact ⟨(wrap64 (x12_2 + ((rd_T35 l0 x14_2).f3))), (wrap64 (x14_2 + 1)), (by first | rfl | (simp; done) | (simp [*]; done)), (by first | rfl | (simp; done) | (simp [*]; done)), H', ⟨by have := HJ5.out; have := HK2.out; have := HJ24.out; have := HJ28.out; omega⟩, ⟨by repeat (first | (with_reducible first | exact HB.out | apply below_alloc | apply pw_below_drewN | apply below_drew1) | exact HB.out)⟩⟩
                                    · rw [if_neg c38] at H
                                      exact absurd H (by simp)
                                  · rw [if_neg c37] at H
                                    exact absurd H (by simp)
                    · rw [if_neg c24] at H
                      have c24b0 : decide (x14_2 < (l0.length : Int)) = false := decide_eq_false c24
                      clear c24
                      obtain rfl := Option.some.inj H
                      go_wp2
                      go_ret
                      exact ⟨by first | rfl | (simp [errW_none, errW_some] <;> rfl) | (simp [*, errW_none, errW_some] <;> rfl), by repeat (first | (with_reducible first | exact HB.out | apply below_alloc | apply pw_below_drewN | apply below_drew1) | exact HB.out)⟩
              · rw [if_neg c20] at H
                have c20b0 : (t193 == 0) = false := beq_eq_false_iff_ne.mpr c20
                have c20b1 : (t193 != 0) = true := bne_iff_ne.mpr c20
                obtain rfl := Option.some.inj H
                go_wp2_with (first | ((with_reducible refine gate_callee (f := 11) rfl ?_); refine goesL_ (some 43) rfl rfl Try.func11 (by kernel_rfl) rfl #[.slice A0 l0.length c0, .int .i64 a1, .int .i64 a2] rfl (by (try simp only [List.map_toArray, List.map_cons, List.map_nil]); first | done | rfl | (simp only [List.length_drop, List.length_take]; rfl)) ?_; (with_reducible refine (trail_Sum.calls kj5 _ _ l0 a1 a2 t186 t187 _ ?side1 ?side2 A15.out).mono ?_); (case side1 => repeat (first | exact (Kd.C_below HR0.out HB.out) | (with_reducible refine Kd.C_alloc ?_ _) | (with_reducible refine Kd.C_drewN ?_ _) | (with_reducible refine Kd.C_drew ?_))); (case side2 => exact HC0.out); rintro e w40 ⟨rfl, hb⟩; refine ⟨_, rfl, ?_⟩; have n0_ := Aside0.mk (below_step (by repeat (first | (with_reducible first | exact HB.out | apply below_alloc | apply pw_below_drewN | apply below_drew1) | exact HB.out)) hb); clear HB; have HB := n0_; clear n0_; (try clear hb); (try clear hb2); (try clear hk); (try clear hi); have q41 : (a3 : Int) ≤ ((l0.length : Int) : Int) := of_decide_eq_true (by first | (with_reducible assumption) | assumption); obtain ⟨i041, hi041, _, hsz41, _⟩ := info_parts info35; have hroom41 : l0.length ≤ c0 := HC0.out; have hC41 : Kd.C k35 _ A0 l0.length l0 := HR0.out; have hcut41 := cut_to (P := Try.prog) 22 35 .i64 Try.underlying22 hi041 A0 l0.length c0 a3 (of_decide_eq_true (by first | (with_reducible assumption) | assumption)) q41 hroom41; have hr41 := Kd.C_take (m := (a3 : Int).toNat) hC41 (by omega); have hy41 : y188.length = (a3 : Int).toNat := (by rw [Ny188.out, List.length_take]; omega); rw [← Ny188.out] at hr41; rw [← hy41] at hcut41; have HR191 := Aside0.mk hr41; have HC191 := Aside0.mk (show y188.length ≤ c0 from by omega); clear hr41 hC41 hroom41 hi041 hsz41; have KY41 := Aside0.mk hy41; clear hy41; replace q41 := eq_true q41) | ((with_reducible refine gate_callee (f := 11) rfl ?_); refine goesL_ (some 52) rfl rfl Try.func11 (by kernel_rfl) rfl #[.slice A0 y188.length c0, .int .i64 a1, .int .i64 a2] rfl (by (try simp only [List.map_toArray, List.map_cons, List.map_nil]); first | done | rfl | (simp only [List.length_drop, List.length_take]; rfl)) ?_; (with_reducible refine (trail_Sum.calls kj5 _ _ y188 a1 a2 t192 t193 _ ?side1 ?side2 A18.out).mono ?_); (case side1 => repeat (first | exact (Kd.C_below HR191.out HB.out) | (with_reducible refine Kd.C_alloc ?_ _) | (with_reducible refine Kd.C_drewN ?_ _) | (with_reducible refine Kd.C_drew ?_))); (case side2 => exact HC191.out); rintro e w42 ⟨rfl, hb⟩; refine ⟨_, rfl, ?_⟩; have n0_ := Aside0.mk (below_step (by repeat (first | (with_reducible first | exact HB.out | apply below_alloc | apply pw_below_drewN | apply below_drew1) | exact HB.out)) hb); clear HB; have HB := n0_; clear n0_; (try clear hb); (try clear hb2); (try clear hk); (try clear hi)))
                go_ret
                exact ⟨by first | rfl | (simp [errW_none, errW_some] <;> rfl) | (simp [*, errW_none, errW_some] <;> rfl), by repeat (first | (with_reducible first | exact HB.out | apply below_alloc | apply pw_below_drewN | apply below_drew1) | exact HB.out)⟩
            · rw [if_neg c19] at H
              have c19b0 : (t187 == 0) = false := beq_eq_false_iff_ne.mpr c19
              have c19b1 : (t187 != 0) = true := bne_iff_ne.mpr c19
              obtain rfl := Option.some.inj H
              go_wp2_with (first | ((with_reducible refine gate_callee (f := 11) rfl ?_); refine goesL_ (some 43) rfl rfl Try.func11 (by kernel_rfl) rfl #[.slice A0 l0.length c0, .int .i64 a1, .int .i64 a2] rfl (by (try simp only [List.map_toArray, List.map_cons, List.map_nil]); first | done | rfl | (simp only [List.length_drop, List.length_take]; rfl)) ?_; (with_reducible refine (trail_Sum.calls kj5 _ _ l0 a1 a2 t186 t187 _ ?side1 ?side2 A15.out).mono ?_); (case side1 => repeat (first | exact (Kd.C_below HR0.out HB.out) | (with_reducible refine Kd.C_alloc ?_ _) | (with_reducible refine Kd.C_drewN ?_ _) | (with_reducible refine Kd.C_drew ?_))); (case side2 => exact HC0.out); rintro e w43 ⟨rfl, hb⟩; refine ⟨_, rfl, ?_⟩; have n0_ := Aside0.mk (below_step (by repeat (first | (with_reducible first | exact HB.out | apply below_alloc | apply pw_below_drewN | apply below_drew1) | exact HB.out)) hb); clear HB; have HB := n0_; clear n0_; (try clear hb); (try clear hb2); (try clear hk); (try clear hi); have q44 : (a3 : Int) ≤ ((l0.length : Int) : Int) := of_decide_eq_true (by first | (with_reducible assumption) | assumption); obtain ⟨i044, hi044, _, hsz44, _⟩ := info_parts info35; have hroom44 : l0.length ≤ c0 := HC0.out; have hC44 : Kd.C k35 _ A0 l0.length l0 := HR0.out; have hcut44 := cut_to (P := Try.prog) 22 35 .i64 Try.underlying22 hi044 A0 l0.length c0 a3 (of_decide_eq_true (by first | (with_reducible assumption) | assumption)) q44 hroom44; have hr44 := Kd.C_take (m := (a3 : Int).toNat) hC44 (by omega); have hy44 : y188.length = (a3 : Int).toNat := (by rw [Ny188.out, List.length_take]; omega); rw [← Ny188.out] at hr44; rw [← hy44] at hcut44; have HR191 := Aside0.mk hr44; have HC191 := Aside0.mk (show y188.length ≤ c0 from by omega); clear hr44 hC44 hroom44 hi044 hsz44; have KY44 := Aside0.mk hy44; clear hy44; replace q44 := eq_true q44) | ((with_reducible refine gate_callee (f := 11) rfl ?_); refine goesL_ (some 52) rfl rfl Try.func11 (by kernel_rfl) rfl #[.slice A0 y188.length c0, .int .i64 a1, .int .i64 a2] rfl (by (try simp only [List.map_toArray, List.map_cons, List.map_nil]); first | done | rfl | (simp only [List.length_drop, List.length_take]; rfl)) ?_; (with_reducible refine (trail_Sum.calls kj5 _ _ y188 a1 a2 t192 t193 _ ?side1 ?side2 A18.out).mono ?_); (case side1 => repeat (first | exact (Kd.C_below HR191.out HB.out) | (with_reducible refine Kd.C_alloc ?_ _) | (with_reducible refine Kd.C_drewN ?_ _) | (with_reducible refine Kd.C_drew ?_))); (case side2 => exact HC191.out); rintro e w45 ⟨rfl, hb⟩; refine ⟨_, rfl, ?_⟩; have n0_ := Aside0.mk (below_step (by repeat (first | (with_reducible first | exact HB.out | apply below_alloc | apply pw_below_drewN | apply below_drew1) | exact HB.out)) hb); clear HB; have HB := n0_; clear n0_; (try clear hb); (try clear hb2); (try clear hk); (try clear hi)))
              go_ret
              exact ⟨by first | rfl | (simp [errW_none, errW_some] <;> rfl) | (simp [*, errW_none, errW_some] <;> rfl), by repeat (first | (with_reducible first | exact HB.out | apply below_alloc | apply pw_below_drewN | apply below_drew1) | exact HB.out)⟩
          · rw [if_neg c17] at H
            exact absurd H (by simp)
        · rw [if_neg c16] at H
          exact absurd H (by simp)

/-- THE ONE PURE STATEMENT of quartermasterlaw19_TrailSums. -/
def quartermasterlaw19_TrailSums.Pure : Prop := ∀ (l0 : List (S35)) (a1 : Int) (a2 : Int) (a3 : Int), (l0.length ≤ maxLen) → (∀ y0 ∈ l0, qT35 y0) → ((Lit.int .i64 a1).wf = true) → ((Lit.int .i64 a2).wf = true) → ((Lit.int .i64 a3).wf = true) → ∃ k, quartermasterlaw19_TrailSums.f k l0 a1 a2 a3 = some true

end Go.Proofs.Ythgganjnodoldaa.Px
