-- PRINTED BY print.sh 35421559b90ae4d0a3588c463048766b98c2df88dd9212a6774a882060cdf62d: not written by this session
import Derived.Test.YtlhmgbaplilbeaaPQtyMorex0
import Derived.Test.YtlhmgbaplilbeaaPQtyMorex1
namespace Go.Proofs.Ytlhmgbaplilbeaa.PQtyMore
open Go.RowKit Go.Proofs.YtlhmgbaplilbeaaW.PrintWords Go.Proofs.YtlhmgbaplilbeaaW.PrintLast Go.Proofs.YtlhmgbaplilbeaaW.PrintMore
attribute [local go_sem] max2_int min2_int max_two min_two max_three min_three max_four min_four   -- for this text's walks alone
set_option linter.unusedVariables false
set_option linter.unusedSimpArgs false

/-! ### quartermasterlaw16_QtyMore: function 6 -/
def quartermasterlaw16_QtyMore.j0 : Nat → Int → Bool → Int → Int → Int → Int → Int → Int → Bool → Option (Bool)
  | 0, _, _, _, _, _, _, _, _, _ => none
  | k + 1, x0, x7, x12, x13, x14, x15, x16, x17, x62 => if x62 = true then (some false) else (if x13 = 0 then (if x12 > x0 then (some false) else (if x12 < 0 then (some false) else (if x0 < 0 then (if x15 = 1 then (if x7 = true then (if x16 = 0 then (some (x17 == 0)) else (some false)) else (some false)) else (if x0 ≥ 0 then (if x15 = 0 then (if x7 = true then (if x14 = x0 then (if x16 = 0 then (some (x17 == 0)) else (some false)) else (some false)) else (some false)) else (if x7 = true then (some false) else (some false))) else (if x7 = true then (some false) else (some false)))) else (if x0 ≥ 0 then (if x15 = 0 then (if x7 = true then (if x14 = x0 then (if x16 = 0 then (some (x17 == 0)) else (some false)) else (some false)) else (some false)) else (if x7 = true then (some false) else (some false))) else (if x7 = true then (some false) else (some false)))))) else (if x0 < 0 then (if x15 = 1 then (if x7 = true then (if x16 = 0 then (some (x17 == 0)) else (some false)) else (some false)) else (if x0 ≥ 0 then (if x15 = 0 then (if x7 = true then (if x14 = x0 then (if x16 = 0 then (some (x17 == 0)) else (some false)) else (some false)) else (some false)) else (if x7 = true then (some false) else (some false))) else (if x7 = true then (some false) else (some false)))) else (if x0 ≥ 0 then (if x15 = 0 then (if x7 = true then (if x14 = x0 then (if x16 = 0 then (some (x17 == 0)) else (some false)) else (some false)) else (some false)) else (if x7 = true then (some false) else (some false))) else (if x7 = true then (some false) else (some false)))))
def quartermasterlaw16_QtyMore.f (k : Nat) (a0 : Int) (a1 : Int) (a2 : Int) : Option (Bool) := (quartermasterlaw16_awake.f k).bind fun t119 => ((qty_Add.f k a0 a1).bind fun bt120 => ((qty_Add.f k a0 a2).bind fun bt122 => ((qty_Sub.f k a0 a1).bind fun bt124 => ((qty_Sum.f k (([a0] : List Int))).bind fun bt129 => ((qty_Sum.f k ([] : List Int)).bind fun bt131 => (if bt120.2 = 0 then (if bt122.2 = 0 then (quartermasterlaw16_QtyMore.j0 k a0 t119 bt124.1 bt124.2 bt129.1 bt129.2 bt131.1 bt131.2 ((decide (a1 ≤ a2)) != (decide (bt120.1 ≤ bt122.1)))) else (quartermasterlaw16_QtyMore.j0 k a0 t119 bt124.1 bt124.2 bt129.1 bt129.2 bt131.1 bt131.2 false)) else (quartermasterlaw16_QtyMore.j0 k a0 t119 bt124.1 bt124.2 bt129.1 bt129.2 bt131.1 bt131.2 false)))))))
theorem quartermasterlaw16_QtyMore.mono_l : ∀ k, (∀ y0 y1 y2 y3 y4 y5 y6 y7 y8, LeO (quartermasterlaw16_QtyMore.j0 k y0 y1 y2 y3 y4 y5 y6 y7 y8) (quartermasterlaw16_QtyMore.j0 (k + 1) y0 y1 y2 y3 y4 y5 y6 y7 y8))
  | 0 => fun _ _ _ _ _ _ _ _ _ r h => by simp [quartermasterlaw16_QtyMore.j0] at h
  | k + 1 => by
    have ih0 := quartermasterlaw16_QtyMore.mono_l k
    · intro y0 y1 y2 y3 y4 y5 y6 y7 y8
      unfold quartermasterlaw16_QtyMore.j0
      repeat' first
      | (with_reducible exact ih0 _ _ _ _ _ _ _ _ _)
      | (with_reducible exact qty_Add.mono _ _ _)
      | (with_reducible exact qty_Sub.mono _ _ _)
      | (with_reducible exact qty_Sum.mono _ _)
      | (with_reducible exact quartermasterlaw16_awake.mono _)
      | (with_reducible exact LeO.refl _)
      | (with_reducible exact LeO.none _)
      | (with_reducible refine LeO.ite ?_ ?_)
      | (with_reducible refine LeO.bind ?_ (fun _ => ?_))
      | exact ih0 _ _ _ _ _ _ _ _ _
      | exact qty_Add.mono _ _ _
      | exact qty_Sub.mono _ _ _
      | exact qty_Sum.mono _ _
      | exact quartermasterlaw16_awake.mono _
      | exact LeO.none _
      | refine LeO.ite ?_ ?_
      | refine LeO.bind ?_ (fun _ => ?_)
theorem quartermasterlaw16_QtyMore.mono : ∀ a0 a1 a2 k, LeO (quartermasterlaw16_QtyMore.f k a0 a1 a2) (quartermasterlaw16_QtyMore.f (k + 1) a0 a1 a2) := by
  intro a0 a1 a2 k
  have ih0 := quartermasterlaw16_QtyMore.mono_l k
  unfold quartermasterlaw16_QtyMore.f
  repeat' first
      | (with_reducible exact ih0 _ _ _ _ _ _ _ _ _)
      | (with_reducible exact qty_Add.mono _ _ _)
      | (with_reducible exact qty_Sub.mono _ _ _)
      | (with_reducible exact qty_Sum.mono _ _)
      | (with_reducible exact quartermasterlaw16_awake.mono _)
      | (with_reducible exact LeO.refl _)
      | (with_reducible exact LeO.none _)
      | (with_reducible refine LeO.ite ?_ ?_)
      | (with_reducible refine LeO.bind ?_ (fun _ => ?_))
      | exact ih0 _ _ _ _ _ _ _ _ _
      | exact qty_Add.mono _ _ _
      | exact qty_Sub.mono _ _ _
      | exact qty_Sum.mono _ _
      | exact quartermasterlaw16_awake.mono _
      | exact LeO.none _
      | refine LeO.ite ?_ ?_
      | refine LeO.bind ?_ (fun _ => ?_)
set_option maxHeartbeats 8000000 in
set_option maxRecDepth 100000 in
theorem quartermasterlaw16_QtyMore.calls (k : Nat) (a0 : Int) (a1 : Int) (a2 : Int) (r : Bool) (w : World) (h : quartermasterlaw16_QtyMore.f k a0 a1 a2 = some r) :
    Calls Try.prog 6 #[.int .i64 a0, .int .i64 a1, .int .i64 a2] w fun e w' => e = .returned (.bool r) ∧ Below w.heap.size w w' := by
  have HB := Aside0.mk (Below.refl w.heap.size w)
  have H : ((quartermasterlaw16_awake.f k).bind fun t119 => ((qty_Add.f k a0 a1).bind fun bt120 => ((qty_Add.f k a0 a2).bind fun bt122 => ((qty_Sub.f k a0 a1).bind fun bt124 => ((qty_Sum.f k (([a0] : List Int))).bind fun bt129 => ((qty_Sum.f k ([] : List Int)).bind fun bt131 => (if bt120.2 = 0 then (if bt122.2 = 0 then (quartermasterlaw16_QtyMore.j0 k a0 t119 bt124.1 bt124.2 bt129.1 bt129.2 bt131.1 bt131.2 ((decide (a1 ≤ a2)) != (decide (bt120.1 ≤ bt122.1)))) else (quartermasterlaw16_QtyMore.j0 k a0 t119 bt124.1 bt124.2 bt129.1 bt129.2 bt131.1 bt131.2 false)) else (quartermasterlaw16_QtyMore.j0 k a0 t119 bt124.1 bt124.2 bt129.1 bt129.2 bt131.1 bt131.2 false)))))))) = some r := h
  clear h
  replace H := Option.bind_eq_some_iff.mp H
  obtain ⟨t119, A40, H⟩ := H
  replace H : ((qty_Add.f k a0 a1).bind fun bt120 => ((qty_Add.f k a0 a2).bind fun bt122 => ((qty_Sub.f k a0 a1).bind fun bt124 => ((qty_Sum.f k (([a0] : List Int))).bind fun bt129 => ((qty_Sum.f k ([] : List Int)).bind fun bt131 => (if bt120.2 = 0 then (if bt122.2 = 0 then (quartermasterlaw16_QtyMore.j0 k a0 t119 bt124.1 bt124.2 bt129.1 bt129.2 bt131.1 bt131.2 ((decide (a1 ≤ a2)) != (decide (bt120.1 ≤ bt122.1)))) else (quartermasterlaw16_QtyMore.j0 k a0 t119 bt124.1 bt124.2 bt129.1 bt129.2 bt131.1 bt131.2 false)) else (quartermasterlaw16_QtyMore.j0 k a0 t119 bt124.1 bt124.2 bt129.1 bt129.2 bt131.1 bt131.2 false))))))) = some r := H
  have A4 := Aside0.mk A40
  clear A40
  replace H := Option.bind_eq_some_iff.mp H
  obtain ⟨⟨t120, t121⟩, A50, H⟩ := H
  replace H : ((qty_Add.f k a0 a2).bind fun bt122 => ((qty_Sub.f k a0 a1).bind fun bt124 => ((qty_Sum.f k (([a0] : List Int))).bind fun bt129 => ((qty_Sum.f k ([] : List Int)).bind fun bt131 => (if t121 = 0 then (if bt122.2 = 0 then (quartermasterlaw16_QtyMore.j0 k a0 t119 bt124.1 bt124.2 bt129.1 bt129.2 bt131.1 bt131.2 ((decide (a1 ≤ a2)) != (decide (t120 ≤ bt122.1)))) else (quartermasterlaw16_QtyMore.j0 k a0 t119 bt124.1 bt124.2 bt129.1 bt129.2 bt131.1 bt131.2 false)) else (quartermasterlaw16_QtyMore.j0 k a0 t119 bt124.1 bt124.2 bt129.1 bt129.2 bt131.1 bt131.2 false)))))) = some r := H
  have A5 := Aside0.mk A50
  clear A50
  replace H := Option.bind_eq_some_iff.mp H
  obtain ⟨⟨t122, t123⟩, A60, H⟩ := H
  replace H : ((qty_Sub.f k a0 a1).bind fun bt124 => ((qty_Sum.f k (([a0] : List Int))).bind fun bt129 => ((qty_Sum.f k ([] : List Int)).bind fun bt131 => (if t121 = 0 then (if t123 = 0 then (quartermasterlaw16_QtyMore.j0 k a0 t119 bt124.1 bt124.2 bt129.1 bt129.2 bt131.1 bt131.2 ((decide (a1 ≤ a2)) != (decide (t120 ≤ t122)))) else (quartermasterlaw16_QtyMore.j0 k a0 t119 bt124.1 bt124.2 bt129.1 bt129.2 bt131.1 bt131.2 false)) else (quartermasterlaw16_QtyMore.j0 k a0 t119 bt124.1 bt124.2 bt129.1 bt129.2 bt131.1 bt131.2 false))))) = some r := H
  have A6 := Aside0.mk A60
  clear A60
  replace H := Option.bind_eq_some_iff.mp H
  obtain ⟨⟨t124, t125⟩, A70, H⟩ := H
  replace H : ((qty_Sum.f k (([a0] : List Int))).bind fun bt129 => ((qty_Sum.f k ([] : List Int)).bind fun bt131 => (if t121 = 0 then (if t123 = 0 then (quartermasterlaw16_QtyMore.j0 k a0 t119 t124 t125 bt129.1 bt129.2 bt131.1 bt131.2 ((decide (a1 ≤ a2)) != (decide (t120 ≤ t122)))) else (quartermasterlaw16_QtyMore.j0 k a0 t119 t124 t125 bt129.1 bt129.2 bt131.1 bt131.2 false)) else (quartermasterlaw16_QtyMore.j0 k a0 t119 t124 t125 bt129.1 bt129.2 bt131.1 bt131.2 false)))) = some r := H
  have A7 := Aside0.mk A70
  clear A70
  obtain ⟨y126, hy126⟩ : ∃ y_ : List Int, y_ = (([a0] : List Int)) := ⟨_, rfl⟩
  replace H : ((qty_Sum.f k y126).bind fun bt129 => ((qty_Sum.f k ([] : List Int)).bind fun bt131 => (if t121 = 0 then (if t123 = 0 then (quartermasterlaw16_QtyMore.j0 k a0 t119 t124 t125 bt129.1 bt129.2 bt131.1 bt131.2 ((decide (a1 ≤ a2)) != (decide (t120 ≤ t122)))) else (quartermasterlaw16_QtyMore.j0 k a0 t119 t124 t125 bt129.1 bt129.2 bt131.1 bt131.2 false)) else (quartermasterlaw16_QtyMore.j0 k a0 t119 t124 t125 bt129.1 bt129.2 bt131.1 bt131.2 false)))) = some r := by first | (rw [hy126]; with_reducible exact H) | (have H2_ := (Option.bind_some _ _).symm.trans H; rw [hy126]; with_reducible exact H2_) | (have H2_ := (Option.bind_some _ _).symm.trans H; with_reducible exact H2_) | with_reducible exact H | (rw [hy126]; exact H) | exact H
  have Ny126 := Aside0.mk hy126
  clear hy126
  replace H := Option.bind_eq_some_iff.mp H
  obtain ⟨⟨t129, t130⟩, A80, H⟩ := H
  replace H : ((qty_Sum.f k ([] : List Int)).bind fun bt131 => (if t121 = 0 then (if t123 = 0 then (quartermasterlaw16_QtyMore.j0 k a0 t119 t124 t125 t129 t130 bt131.1 bt131.2 ((decide (a1 ≤ a2)) != (decide (t120 ≤ t122)))) else (quartermasterlaw16_QtyMore.j0 k a0 t119 t124 t125 t129 t130 bt131.1 bt131.2 false)) else (quartermasterlaw16_QtyMore.j0 k a0 t119 t124 t125 t129 t130 bt131.1 bt131.2 false))) = some r := H
  have A8 := Aside0.mk A80
  clear A80
  replace H := Option.bind_eq_some_iff.mp H
  obtain ⟨⟨t131, t132⟩, A90, H⟩ := H
  replace H : (if t121 = 0 then (if t123 = 0 then (quartermasterlaw16_QtyMore.j0 k a0 t119 t124 t125 t129 t130 t131 t132 ((decide (a1 ≤ a2)) != (decide (t120 ≤ t122)))) else (quartermasterlaw16_QtyMore.j0 k a0 t119 t124 t125 t129 t130 t131 t132 false)) else (quartermasterlaw16_QtyMore.j0 k a0 t119 t124 t125 t129 t130 t131 t132 false)) = some r := H
  have A9 := Aside0.mk A90
  clear A90
  have HC10 := Aside0.mk H
  clear H
  go_enter Try.func6, Try.ntmps6
  go_upto_region 7 with (first | ((with_reducible refine gate_callee (f := 7) rfl ?_); refine goesL_ (some 19) rfl rfl Try.func7 (by kernel_rfl) rfl #[] rfl (by (try simp only [List.map_toArray, List.map_cons, List.map_nil]); first | done | rfl | (simp only [List.length_drop, List.length_take]; rfl)) ?_; (with_reducible refine (quartermasterlaw16_awake.calls k  t119 _ A4.out).mono ?_); rintro e w11 ⟨rfl, hb⟩; refine ⟨_, rfl, ?_⟩; have n0_ := Aside0.mk (below_step (by repeat (first | (with_reducible first | exact HB.out | apply below_alloc | apply pw_below_drewN | apply below_drew1) | exact HB.out)) hb); clear HB; have HB := n0_; clear n0_; (try clear hb); (try clear hb2); (try clear hk); (try clear hi)) | ((with_reducible refine gate_callee (f := 8) rfl ?_); refine goesL_ (some 23) rfl rfl Try.func8 (by kernel_rfl) rfl #[.int .i64 a0, .int .i64 a1] rfl (by (try simp only [List.map_toArray, List.map_cons, List.map_nil]); first | done | rfl | (simp only [List.length_drop, List.length_take]; rfl)) ?_; (with_reducible refine (qty_Add.calls k a0 a1 t120 t121 _ A5.out).mono ?_); rintro e w' ⟨rfl, ⟨nd, rfl⟩⟩; refine ⟨_, rfl, ?_⟩) | ((with_reducible refine gate_callee (f := 8) rfl ?_); refine goesL_ (some 29) rfl rfl Try.func8 (by kernel_rfl) rfl #[.int .i64 a0, .int .i64 a2] rfl (by (try simp only [List.map_toArray, List.map_cons, List.map_nil]); first | done | rfl | (simp only [List.length_drop, List.length_take]; rfl)) ?_; (with_reducible refine (qty_Add.calls k a0 a2 t122 t123 _ A6.out).mono ?_); rintro e w' ⟨rfl, ⟨nd, rfl⟩⟩; refine ⟨_, rfl, ?_⟩) | ((with_reducible refine gate_callee (f := 10) rfl ?_); refine goesL_ (some 35) rfl rfl Try.func10 (by kernel_rfl) rfl #[.int .i64 a0, .int .i64 a1] rfl (by (try simp only [List.map_toArray, List.map_cons, List.map_nil]); first | done | rfl | (simp only [List.length_drop, List.length_take]; rfl)) ?_; (with_reducible refine (qty_Sub.calls k a0 a1 t124 t125 _ A7.out).mono ?_); rintro e w' ⟨rfl, ⟨nd, rfl⟩⟩; refine ⟨_, rfl, ?_⟩) | ((with_reducible refine gate_dst (N := 40) rfl ?_); refine Kd.R_lit (Kd.int .i64) _ 3 ?hg (N := 40) ?hd (xs := ([a0] : List Int)) (inner := [.int .i64 a0]) (ok := fun _ => True) (okp := fun _ => True) ?hr ?hp (fun _ hk => hk) trivial (Below.refl _ _) (Nat.le_refl _) (by simp) ?_; (case hd => rfl); (case hg => rfl); (case hr => first | (go_simp; done) | (go_simp; rfl)); (case hp => exact (Reps.one (show Kd.M (Kd.int .i64) _ _ _ a0 [.int .i64 a0] from rfl) (Reps.none _ _))); intro v127 w12 ho13 hb hg_ hnew_; clear hg_ hnew_; (first | rw [← Ny126.out] at ho13 | (simp only [Int.reduceToNat] at ho13; rw [← Ny126.out] at ho13)); have n0_ := Aside0.mk (Kd.R_lower ho13 (below_size (by repeat (first | (with_reducible first | exact HB.out | apply below_alloc | apply pw_below_drewN | apply below_drew1) | exact HB.out)))); have n1_ := Aside0.mk (below_step (by repeat (first | (with_reducible first | exact HB.out | apply below_alloc | apply pw_below_drewN | apply below_drew1) | exact HB.out)) hb); clear HB; have HO128 := n0_; have HB := n1_; clear n0_ n1_; clear hb ho13; obtain ⟨Ao14, co14, eo14⟩ := Kd.R_slice HO128.out; subst eo14) | ((with_reducible refine gate_callee (f := 13) rfl ?_); refine goesL_ (some 41) rfl rfl Try.func13 (by kernel_rfl) rfl #[.slice Ao14 y126.length co14] rfl (by (try simp only [List.map_toArray, List.map_cons, List.map_nil]); first | done | rfl | (simp only [List.length_drop, List.length_take]; rfl)) ?_; (with_reducible refine (qty_Sum.calls k _ _ y126 t129 t130 _ ?side1 ?side2 A8.out).mono ?_); (case side1 => repeat (first | exact (Kd.R_reads' HO128.out).2.2 | (with_reducible refine Kd.C_alloc ?_ _) | (with_reducible refine Kd.C_drewN ?_ _) | (with_reducible refine Kd.C_drew ?_))); (case side2 => exact (Kd.R_reads' HO128.out).2.1); rintro e w' ⟨rfl, ⟨nd, rfl⟩⟩; refine ⟨_, rfl, ?_⟩) | ((with_reducible refine gate_callee (f := 13) rfl ?_); refine goesL_ (some 45) rfl rfl Try.func13 (by kernel_rfl) rfl #[.slice none 0 0] rfl (by (try simp only [List.map_toArray, List.map_cons, List.map_nil]); first | done | rfl | (simp only [List.length_drop, List.length_take]; rfl)) ?_; (refine (qty_Sum.calls k _ _ ([] : List Int) t131 t132 _ ?side1 ?side2 A9.out).mono ?_); (case side1 => exact Kd.C_nil _ _); (case side2 => exact Nat.le_refl _); rintro e w' ⟨rfl, ⟨nd, rfl⟩⟩; refine ⟨_, rfl, ?_⟩))
  (try simp only [Act.put, List.setIfInBounds_toArray, List.set_cons_zero, List.set_cons_succ])
  go_cut [62] (fun v62 wc => ∃ (kq : Nat) (x62_9 : Bool), v62 = .bool x62_9 ∧ Aside0 (quartermasterlaw16_QtyMore.j0 kq a0 t119 t124 t125 t129 t130 t131 t132 x62_9 = some r) ∧ Aside0 (kq ≤ k) ∧ Aside0 (Below w.heap.size w wc))
  case first =>
    have H := HC10.out
    clear HC10
    by_cases c15 : t121 = 0
    · rw [if_pos c15] at H
      have c15b0 : (t121 == 0) = true := beq_iff_eq.mpr c15
      have c15b1 : (t121 != 0) = false := bne_eq_false_iff_eq.mpr c15
      clear c15
      (first | rw [c15b0] | (simp only [i64_w, i32_w]; rw [c15b0]) | skip)
      by_cases c16 : t123 = 0
      · rw [if_pos c16] at H
        have c16b0 : (t123 == 0) = true := beq_iff_eq.mpr c16
        have c16b1 : (t123 != 0) = false := bne_eq_false_iff_eq.mpr c16
        clear c16
        have H' := Aside0.mk H
        clear H
        go_wp2
        go_meet
        case rel => exact ⟨_, (((decide (a1 ≤ a2)) != (decide (t120 ≤ t122)))), (by first | rfl | (simp; done) | (simp [*]; done)), H', ⟨by first | omega | exact Nat.le_refl _⟩, ⟨by repeat (first | (with_reducible first | exact HB.out | apply below_alloc | apply pw_below_drewN | apply below_drew1) | exact HB.out)⟩⟩
      · rw [if_neg c16] at H
        have c16b0 : (t123 == 0) = false := beq_eq_false_iff_ne.mpr c16
        have c16b1 : (t123 != 0) = true := bne_iff_ne.mpr c16
        have H' := Aside0.mk H
        clear H
        go_wp2
        go_meet
        case rel => exact ⟨_, (false), (by first | rfl | (simp; done) | (simp [*]; done)), H', ⟨by first | omega | exact Nat.le_refl _⟩, ⟨by repeat (first | (with_reducible first | exact HB.out | apply below_alloc | apply pw_below_drewN | apply below_drew1) | exact HB.out)⟩⟩
    · rw [if_neg c15] at H
      have c15b0 : (t121 == 0) = false := beq_eq_false_iff_ne.mpr c15
      have c15b1 : (t121 != 0) = true := bne_iff_ne.mpr c15
      (first | rw [c15b0] | (simp only [i64_w, i32_w]; rw [c15b0]) | skip)
      have H' := Aside0.mk H
      clear H
      go_wp2
      go_meet
      case rel => exact ⟨_, (false), (by first | rfl | (simp; done) | (simp [*]; done)), H', ⟨by first | omega | exact Nat.le_refl _⟩, ⟨by repeat (first | (with_reducible first | exact HB.out | apply below_alloc | apply pw_below_drewN | apply below_drew1) | exact HB.out)⟩⟩
  case rest =>
    clear HC10
    try clear c1
    try clear p2
    try clear c6
    try clear c7
    try clear c8
    try clear c10
    try clear c13
    try clear c15
    try clear c15b0
    try clear c15b1
    try clear c16
    try clear c16b0
    try clear c16b1
    obtain ⟨kq, x62_9, rfl, HA, HJ9, HB⟩ := hcut
    cases kq with
    | zero => exact absurd HA.out (by simp [quartermasterlaw16_QtyMore.j0])
    | succ kj9 =>
      have H := HA.out
      clear HA
      simp only [quartermasterlaw16_QtyMore.j0] at H
      by_cases c17 : x62_9 = true
      · subst c17
        have H1 : (some false) = some r := by rw [if_pos rfl] at H; exact H
        clear H
        have H := H1
        clear H1
        obtain rfl := Option.some.inj H
        go_wp2
        go_ret
        exact ⟨by first | rfl | (simp [errW_none, errW_some] <;> rfl) | (simp [*, errW_none, errW_some] <;> rfl), by repeat (first | (with_reducible first | exact HB.out | apply below_alloc | apply pw_below_drewN | apply below_drew1) | exact HB.out)⟩
      · replace c17 := Bool.eq_false_iff.mpr c17
        subst c17
        have H1 : (if t125 = 0 then (if t124 > a0 then (some false) else (if t124 < 0 then (some false) else (if a0 < 0 then (if t130 = 1 then (if t119 = true then (if t131 = 0 then (some (t132 == 0)) else (some false)) else (some false)) else (if a0 ≥ 0 then (if t130 = 0 then (if t119 = true then (if t129 = a0 then (if t131 = 0 then (some (t132 == 0)) else (some false)) else (some false)) else (some false)) else (if t119 = true then (some false) else (some false))) else (if t119 = true then (some false) else (some false)))) else (if a0 ≥ 0 then (if t130 = 0 then (if t119 = true then (if t129 = a0 then (if t131 = 0 then (some (t132 == 0)) else (some false)) else (some false)) else (some false)) else (if t119 = true then (some false) else (some false))) else (if t119 = true then (some false) else (some false)))))) else (if a0 < 0 then (if t130 = 1 then (if t119 = true then (if t131 = 0 then (some (t132 == 0)) else (some false)) else (some false)) else (if a0 ≥ 0 then (if t130 = 0 then (if t119 = true then (if t129 = a0 then (if t131 = 0 then (some (t132 == 0)) else (some false)) else (some false)) else (some false)) else (if t119 = true then (some false) else (some false))) else (if t119 = true then (some false) else (some false)))) else (if a0 ≥ 0 then (if t130 = 0 then (if t119 = true then (if t129 = a0 then (if t131 = 0 then (some (t132 == 0)) else (some false)) else (some false)) else (some false)) else (if t119 = true then (some false) else (some false))) else (if t119 = true then (some false) else (some false))))) = some r := by rw [if_neg (show ¬ (false = true) by decide)] at H; exact H
        clear H
        have H := H1
        clear H1
        by_cases c18 : t125 = 0
        · rw [if_pos c18] at H
          have c18b0 : (t125 == 0) = true := beq_iff_eq.mpr c18
          have c18b1 : (t125 != 0) = false := bne_eq_false_iff_eq.mpr c18
          clear c18
          by_cases c19 : t124 > a0
          · rw [if_pos c19] at H
            have c19b0 : decide (a0 < t124) = true := decide_eq_true c19
            clear c19
            obtain rfl := Option.some.inj H
            go_wp2
            go_ret
            exact ⟨by first | rfl | (simp [errW_none, errW_some] <;> rfl) | (simp [*, errW_none, errW_some] <;> rfl), by repeat (first | (with_reducible first | exact HB.out | apply below_alloc | apply pw_below_drewN | apply below_drew1) | exact HB.out)⟩
          · rw [if_neg c19] at H
            have c19b0 : decide (a0 < t124) = false := decide_eq_false c19
            clear c19
            by_cases c20 : t124 < 0
            · rw [if_pos c20] at H
              have c20b0 : decide (t124 < 0) = true := decide_eq_true c20
              clear c20
              obtain rfl := Option.some.inj H
              go_wp2
              go_ret
              exact ⟨by first | rfl | (simp [errW_none, errW_some] <;> rfl) | (simp [*, errW_none, errW_some] <;> rfl), by repeat (first | (with_reducible first | exact HB.out | apply below_alloc | apply pw_below_drewN | apply below_drew1) | exact HB.out)⟩
            · rw [if_neg c20] at H
              have c20b0 : decide (t124 < 0) = false := decide_eq_false c20
              clear c20
              by_cases c21 : a0 < 0
              · rw [if_pos c21] at H
                have c21b0 : decide (a0 < 0) = true := decide_eq_true c21
                clear c21
                by_cases c22 : t130 = 1
                · rw [if_pos c22] at H
                  have c22b0 : (t130 == 1) = true := beq_iff_eq.mpr c22
                  have c22b1 : (t130 != 1) = false := bne_eq_false_iff_eq.mpr c22
                  clear c22
                  by_cases c23 : t119 = true
                  · subst c23
                    have H1 : (if t131 = 0 then (some (t132 == 0)) else (some false)) = some r := by rw [if_pos rfl] at H; exact H
                    clear H
                    have H := H1
                    clear H1
                    by_cases c24 : t131 = 0
                    · rw [if_pos c24] at H
                      have c24b0 : (t131 == 0) = true := beq_iff_eq.mpr c24
                      have c24b1 : (t131 != 0) = false := bne_eq_false_iff_eq.mpr c24
                      clear c24
                      obtain rfl := Option.some.inj H
                      go_wp2
                      go_ret
                      exact ⟨by first | rfl | (simp [errW_none, errW_some] <;> rfl) | (simp [*, errW_none, errW_some] <;> rfl), by repeat (first | (with_reducible first | exact HB.out | apply below_alloc | apply pw_below_drewN | apply below_drew1) | exact HB.out)⟩
                    · rw [if_neg c24] at H
                      have c24b0 : (t131 == 0) = false := beq_eq_false_iff_ne.mpr c24
                      have c24b1 : (t131 != 0) = true := bne_iff_ne.mpr c24
                      obtain rfl := Option.some.inj H
                      go_wp2
                      go_ret
                      exact ⟨by first | rfl | (simp [errW_none, errW_some] <;> rfl) | (simp [*, errW_none, errW_some] <;> rfl), by repeat (first | (with_reducible first | exact HB.out | apply below_alloc | apply pw_below_drewN | apply below_drew1) | exact HB.out)⟩
                  · replace c23 := Bool.eq_false_iff.mpr c23
                    subst c23
                    have H1 : (some false) = some r := by rw [if_neg (show ¬ (false = true) by decide)] at H; exact H
                    clear H
                    have H := H1
                    clear H1
                    obtain rfl := Option.some.inj H
                    go_wp2
                    go_ret
                    exact ⟨by first | rfl | (simp [errW_none, errW_some] <;> rfl) | (simp [*, errW_none, errW_some] <;> rfl), by repeat (first | (with_reducible first | exact HB.out | apply below_alloc | apply pw_below_drewN | apply below_drew1) | exact HB.out)⟩
                · rw [if_neg c22] at H
                  have c22b0 : (t130 == 1) = false := beq_eq_false_iff_ne.mpr c22
                  have c22b1 : (t130 != 1) = true := bne_iff_ne.mpr c22
                  by_cases c25 : a0 ≥ 0
                  · rw [if_pos c25] at H
                    have c25b0 : decide (0 ≤ a0) = true := decide_eq_true c25
                    clear c25
                    by_cases c26 : t130 = 0
                    · rw [if_pos c26] at H
                      have c26b0 : (t130 == 0) = true := beq_iff_eq.mpr c26
                      have c26b1 : (t130 != 0) = false := bne_eq_false_iff_eq.mpr c26
                      clear c26
                      by_cases c27 : t119 = true
                      · subst c27
                        have H1 : (if t129 = a0 then (if t131 = 0 then (some (t132 == 0)) else (some false)) else (some false)) = some r := by rw [if_pos rfl] at H; exact H
                        clear H
                        have H := H1
                        clear H1
                        by_cases c28 : t129 = a0
                        · rw [if_pos c28] at H
                          have c28b0 : (t129 == a0) = true := beq_iff_eq.mpr c28
                          have c28b1 : (t129 != a0) = false := bne_eq_false_iff_eq.mpr c28
                          clear c28
                          by_cases c29 : t131 = 0
                          · rw [if_pos c29] at H
                            have c29b0 : (t131 == 0) = true := beq_iff_eq.mpr c29
                            have c29b1 : (t131 != 0) = false := bne_eq_false_iff_eq.mpr c29
                            clear c29
                            obtain rfl := Option.some.inj H
                            go_wp2
                            go_ret
                            exact ⟨by first | rfl | (simp [errW_none, errW_some] <;> rfl) | (simp [*, errW_none, errW_some] <;> rfl), by repeat (first | (with_reducible first | exact HB.out | apply below_alloc | apply pw_below_drewN | apply below_drew1) | exact HB.out)⟩
                          · rw [if_neg c29] at H
                            have c29b0 : (t131 == 0) = false := beq_eq_false_iff_ne.mpr c29
                            have c29b1 : (t131 != 0) = true := bne_iff_ne.mpr c29
                            obtain rfl := Option.some.inj H
                            go_wp2
                            go_ret
                            exact ⟨by first | rfl | (simp [errW_none, errW_some] <;> rfl) | (simp [*, errW_none, errW_some] <;> rfl), by repeat (first | (with_reducible first | exact HB.out | apply below_alloc | apply pw_below_drewN | apply below_drew1) | exact HB.out)⟩
                        · rw [if_neg c28] at H
                          have c28b0 : (t129 == a0) = false := beq_eq_false_iff_ne.mpr c28
                          have c28b1 : (t129 != a0) = true := bne_iff_ne.mpr c28
                          obtain rfl := Option.some.inj H
                          go_wp2
                          go_ret
                          exact ⟨by first | rfl | (simp [errW_none, errW_some] <;> rfl) | (simp [*, errW_none, errW_some] <;> rfl), by repeat (first | (with_reducible first | exact HB.out | apply below_alloc | apply pw_below_drewN | apply below_drew1) | exact HB.out)⟩
                      · replace c27 := Bool.eq_false_iff.mpr c27
                        subst c27
                        have H1 : (some false) = some r := by rw [if_neg (show ¬ (false = true) by decide)] at H; exact H
                        clear H
                        have H := H1
                        clear H1
                        obtain rfl := Option.some.inj H
                        go_wp2
                        go_ret
                        exact ⟨by first | rfl | (simp [errW_none, errW_some] <;> rfl) | (simp [*, errW_none, errW_some] <;> rfl), by repeat (first | (with_reducible first | exact HB.out | apply below_alloc | apply pw_below_drewN | apply below_drew1) | exact HB.out)⟩
                    · rw [if_neg c26] at H
                      have c26b0 : (t130 == 0) = false := beq_eq_false_iff_ne.mpr c26
                      have c26b1 : (t130 != 0) = true := bne_iff_ne.mpr c26
                      by_cases c30 : t119 = true
                      · subst c30
                        have H1 : (some false) = some r := by rw [if_pos rfl] at H; exact H
                        clear H
                        have H := H1
                        clear H1
                        obtain rfl := Option.some.inj H
                        go_wp2
                        go_ret
                        exact ⟨by first | rfl | (simp [errW_none, errW_some] <;> rfl) | (simp [*, errW_none, errW_some] <;> rfl), by repeat (first | (with_reducible first | exact HB.out | apply below_alloc | apply pw_below_drewN | apply below_drew1) | exact HB.out)⟩
                      · replace c30 := Bool.eq_false_iff.mpr c30
                        subst c30
                        have H1 : (some false) = some r := by rw [if_neg (show ¬ (false = true) by decide)] at H; exact H
                        clear H
                        have H := H1
                        clear H1
                        obtain rfl := Option.some.inj H
                        go_wp2
                        go_ret
                        exact ⟨by first | rfl | (simp [errW_none, errW_some] <;> rfl) | (simp [*, errW_none, errW_some] <;> rfl), by repeat (first | (with_reducible first | exact HB.out | apply below_alloc | apply pw_below_drewN | apply below_drew1) | exact HB.out)⟩
                  · rw [if_neg c25] at H
                    have c25b0 : decide (0 ≤ a0) = false := decide_eq_false c25
                    clear c25
                    by_cases c31 : t119 = true
                    · subst c31
                      have H1 : (some false) = some r := by rw [if_pos rfl] at H; exact H
                      clear H
                      have H := H1
                      clear H1
                      obtain rfl := Option.some.inj H
                      go_wp2
                      go_ret
                      exact ⟨by first | rfl | (simp [errW_none, errW_some] <;> rfl) | (simp [*, errW_none, errW_some] <;> rfl), by repeat (first | (with_reducible first | exact HB.out | apply below_alloc | apply pw_below_drewN | apply below_drew1) | exact HB.out)⟩
                    · replace c31 := Bool.eq_false_iff.mpr c31
                      subst c31
                      have H1 : (some false) = some r := by rw [if_neg (show ¬ (false = true) by decide)] at H; exact H
                      clear H
                      have H := H1
                      clear H1
                      obtain rfl := Option.some.inj H
                      go_wp2
                      go_ret
                      exact ⟨by first | rfl | (simp [errW_none, errW_some] <;> rfl) | (simp [*, errW_none, errW_some] <;> rfl), by repeat (first | (with_reducible first | exact HB.out | apply below_alloc | apply pw_below_drewN | apply below_drew1) | exact HB.out)⟩
              · rw [if_neg c21] at H
                have c21b0 : decide (a0 < 0) = false := decide_eq_false c21
                clear c21
                by_cases c32 : a0 ≥ 0
                · rw [if_pos c32] at H
                  have c32b0 : decide (0 ≤ a0) = true := decide_eq_true c32
                  clear c32
                  by_cases c33 : t130 = 0
                  · rw [if_pos c33] at H
                    have c33b0 : (t130 == 0) = true := beq_iff_eq.mpr c33
                    have c33b1 : (t130 != 0) = false := bne_eq_false_iff_eq.mpr c33
                    clear c33
                    by_cases c34 : t119 = true
                    · subst c34
                      have H1 : (if t129 = a0 then (if t131 = 0 then (some (t132 == 0)) else (some false)) else (some false)) = some r := by rw [if_pos rfl] at H; exact H
                      clear H
                      have H := H1
                      clear H1
                      by_cases c35 : t129 = a0
                      · rw [if_pos c35] at H
                        have c35b0 : (t129 == a0) = true := beq_iff_eq.mpr c35
                        have c35b1 : (t129 != a0) = false := bne_eq_false_iff_eq.mpr c35
                        clear c35
                        by_cases c36 : t131 = 0
                        · rw [if_pos c36] at H
                          have c36b0 : (t131 == 0) = true := beq_iff_eq.mpr c36
                          have c36b1 : (t131 != 0) = false := bne_eq_false_iff_eq.mpr c36
                          clear c36
                          obtain rfl := Option.some.inj H
                          go_wp2
                          go_ret
                          exact ⟨by first | rfl | (simp [errW_none, errW_some] <;> rfl) | (simp [*, errW_none, errW_some] <;> rfl), by repeat (first | (with_reducible first | exact HB.out | apply below_alloc | apply pw_below_drewN | apply below_drew1) | exact HB.out)⟩
                        · rw [if_neg c36] at H
                          have c36b0 : (t131 == 0) = false := beq_eq_false_iff_ne.mpr c36
                          have c36b1 : (t131 != 0) = true := bne_iff_ne.mpr c36
                          obtain rfl := Option.some.inj H
                          go_wp2
                          go_ret
                          exact ⟨by first | rfl | (simp [errW_none, errW_some] <;> rfl) | (simp [*, errW_none, errW_some] <;> rfl), by repeat (first | (with_reducible first | exact HB.out | apply below_alloc | apply pw_below_drewN | apply below_drew1) | exact HB.out)⟩
                      · rw [if_neg c35] at H
                        have c35b0 : (t129 == a0) = false := beq_eq_false_iff_ne.mpr c35
                        have c35b1 : (t129 != a0) = true := bne_iff_ne.mpr c35
                        obtain rfl := Option.some.inj H
                        go_wp2
                        go_ret
                        exact ⟨by first | rfl | (simp [errW_none, errW_some] <;> rfl) | (simp [*, errW_none, errW_some] <;> rfl), by repeat (first | (with_reducible first | exact HB.out | apply below_alloc | apply pw_below_drewN | apply below_drew1) | exact HB.out)⟩
                    · replace c34 := Bool.eq_false_iff.mpr c34
                      subst c34
                      have H1 : (some false) = some r := by rw [if_neg (show ¬ (false = true) by decide)] at H; exact H
                      clear H
                      have H := H1
                      clear H1
                      obtain rfl := Option.some.inj H
                      go_wp2
                      go_ret
                      exact ⟨by first | rfl | (simp [errW_none, errW_some] <;> rfl) | (simp [*, errW_none, errW_some] <;> rfl), by repeat (first | (with_reducible first | exact HB.out | apply below_alloc | apply pw_below_drewN | apply below_drew1) | exact HB.out)⟩
                  · rw [if_neg c33] at H
                    have c33b0 : (t130 == 0) = false := beq_eq_false_iff_ne.mpr c33
                    have c33b1 : (t130 != 0) = true := bne_iff_ne.mpr c33
                    by_cases c37 : t119 = true
                    · subst c37
                      have H1 : (some false) = some r := by rw [if_pos rfl] at H; exact H
                      clear H
                      have H := H1
                      clear H1
                      obtain rfl := Option.some.inj H
                      go_wp2
                      go_ret
                      exact ⟨by first | rfl | (simp [errW_none, errW_some] <;> rfl) | (simp [*, errW_none, errW_some] <;> rfl), by repeat (first | (with_reducible first | exact HB.out | apply below_alloc | apply pw_below_drewN | apply below_drew1) | exact HB.out)⟩
                    · replace c37 := Bool.eq_false_iff.mpr c37
                      subst c37
                      have H1 : (some false) = some r := by rw [if_neg (show ¬ (false = true) by decide)] at H; exact H
                      clear H
                      have H := H1
                      clear H1
                      obtain rfl := Option.some.inj H
                      go_wp2
                      go_ret
                      exact ⟨by first | rfl | (simp [errW_none, errW_some] <;> rfl) | (simp [*, errW_none, errW_some] <;> rfl), by repeat (first | (with_reducible first | exact HB.out | apply below_alloc | apply pw_below_drewN | apply below_drew1) | exact HB.out)⟩
                · rw [if_neg c32] at H
                  have c32b0 : decide (0 ≤ a0) = false := decide_eq_false c32
                  clear c32
                  by_cases c38 : t119 = true
                  · subst c38
                    have H1 : (some false) = some r := by rw [if_pos rfl] at H; exact H
                    clear H
                    have H := H1
                    clear H1
                    obtain rfl := Option.some.inj H
                    go_wp2
                    go_ret
                    exact ⟨by first | rfl | (simp [errW_none, errW_some] <;> rfl) | (simp [*, errW_none, errW_some] <;> rfl), by repeat (first | (with_reducible first | exact HB.out | apply below_alloc | apply pw_below_drewN | apply below_drew1) | exact HB.out)⟩
                  · replace c38 := Bool.eq_false_iff.mpr c38
                    subst c38
                    have H1 : (some false) = some r := by rw [if_neg (show ¬ (false = true) by decide)] at H; exact H
                    clear H
                    have H := H1
                    clear H1
                    obtain rfl := Option.some.inj H
                    go_wp2
                    go_ret
                    exact ⟨by first | rfl | (simp [errW_none, errW_some] <;> rfl) | (simp [*, errW_none, errW_some] <;> rfl), by repeat (first | (with_reducible first | exact HB.out | apply below_alloc | apply pw_below_drewN | apply below_drew1) | exact HB.out)⟩
        · rw [if_neg c18] at H
          have c18b0 : (t125 == 0) = false := beq_eq_false_iff_ne.mpr c18
          have c18b1 : (t125 != 0) = true := bne_iff_ne.mpr c18
          by_cases c39 : a0 < 0
          · rw [if_pos c39] at H
            have c39b0 : decide (a0 < 0) = true := decide_eq_true c39
            clear c39
            by_cases c40 : t130 = 1
            · rw [if_pos c40] at H
              have c40b0 : (t130 == 1) = true := beq_iff_eq.mpr c40
              have c40b1 : (t130 != 1) = false := bne_eq_false_iff_eq.mpr c40
              clear c40
              by_cases c41 : t119 = true
              · subst c41
                have H1 : (if t131 = 0 then (some (t132 == 0)) else (some false)) = some r := by rw [if_pos rfl] at H; exact H
                clear H
                have H := H1
                clear H1
                by_cases c42 : t131 = 0
                · rw [if_pos c42] at H
                  have c42b0 : (t131 == 0) = true := beq_iff_eq.mpr c42
                  have c42b1 : (t131 != 0) = false := bne_eq_false_iff_eq.mpr c42
                  clear c42
                  obtain rfl := Option.some.inj H
                  go_wp2
                  go_ret
                  exact ⟨by first | rfl | (simp [errW_none, errW_some] <;> rfl) | (simp [*, errW_none, errW_some] <;> rfl), by repeat (first | (with_reducible first | exact HB.out | apply below_alloc | apply pw_below_drewN | apply below_drew1) | exact HB.out)⟩
                · rw [if_neg c42] at H
                  have c42b0 : (t131 == 0) = false := beq_eq_false_iff_ne.mpr c42
                  have c42b1 : (t131 != 0) = true := bne_iff_ne.mpr c42
                  obtain rfl := Option.some.inj H
                  go_wp2
                  go_ret
                  exact ⟨by first | rfl | (simp [errW_none, errW_some] <;> rfl) | (simp [*, errW_none, errW_some] <;> rfl), by repeat (first | (with_reducible first | exact HB.out | apply below_alloc | apply pw_below_drewN | apply below_drew1) | exact HB.out)⟩
              · replace c41 := Bool.eq_false_iff.mpr c41
                subst c41
                have H1 : (some false) = some r := by rw [if_neg (show ¬ (false = true) by decide)] at H; exact H
                clear H
                have H := H1
                clear H1
                obtain rfl := Option.some.inj H
                go_wp2
                go_ret
                exact ⟨by first | rfl | (simp [errW_none, errW_some] <;> rfl) | (simp [*, errW_none, errW_some] <;> rfl), by repeat (first | (with_reducible first | exact HB.out | apply below_alloc | apply pw_below_drewN | apply below_drew1) | exact HB.out)⟩
            · rw [if_neg c40] at H
              have c40b0 : (t130 == 1) = false := beq_eq_false_iff_ne.mpr c40
              have c40b1 : (t130 != 1) = true := bne_iff_ne.mpr c40
              by_cases c43 : a0 ≥ 0
              · rw [if_pos c43] at H
                have c43b0 : decide (0 ≤ a0) = true := decide_eq_true c43
                clear c43
                by_cases c44 : t130 = 0
                · rw [if_pos c44] at H
                  have c44b0 : (t130 == 0) = true := beq_iff_eq.mpr c44
                  have c44b1 : (t130 != 0) = false := bne_eq_false_iff_eq.mpr c44
                  clear c44
                  by_cases c45 : t119 = true
                  · subst c45
                    have H1 : (if t129 = a0 then (if t131 = 0 then (some (t132 == 0)) else (some false)) else (some false)) = some r := by rw [if_pos rfl] at H; exact H
                    clear H
                    have H := H1
                    clear H1
                    by_cases c46 : t129 = a0
                    · rw [if_pos c46] at H
                      have c46b0 : (t129 == a0) = true := beq_iff_eq.mpr c46
                      have c46b1 : (t129 != a0) = false := bne_eq_false_iff_eq.mpr c46
                      clear c46
                      by_cases c47 : t131 = 0
                      · rw [if_pos c47] at H
                        have c47b0 : (t131 == 0) = true := beq_iff_eq.mpr c47
                        have c47b1 : (t131 != 0) = false := bne_eq_false_iff_eq.mpr c47
                        clear c47
                        obtain rfl := Option.some.inj H
                        go_wp2
                        go_ret
                        exact ⟨by first | rfl | (simp [errW_none, errW_some] <;> rfl) | (simp [*, errW_none, errW_some] <;> rfl), by repeat (first | (with_reducible first | exact HB.out | apply below_alloc | apply pw_below_drewN | apply below_drew1) | exact HB.out)⟩
                      · rw [if_neg c47] at H
                        have c47b0 : (t131 == 0) = false := beq_eq_false_iff_ne.mpr c47
                        have c47b1 : (t131 != 0) = true := bne_iff_ne.mpr c47
                        obtain rfl := Option.some.inj H
                        go_wp2
                        go_ret
                        exact ⟨by first | rfl | (simp [errW_none, errW_some] <;> rfl) | (simp [*, errW_none, errW_some] <;> rfl), by repeat (first | (with_reducible first | exact HB.out | apply below_alloc | apply pw_below_drewN | apply below_drew1) | exact HB.out)⟩
                    · rw [if_neg c46] at H
                      have c46b0 : (t129 == a0) = false := beq_eq_false_iff_ne.mpr c46
                      have c46b1 : (t129 != a0) = true := bne_iff_ne.mpr c46
                      obtain rfl := Option.some.inj H
                      go_wp2
                      go_ret
                      exact ⟨by first | rfl | (simp [errW_none, errW_some] <;> rfl) | (simp [*, errW_none, errW_some] <;> rfl), by repeat (first | (with_reducible first | exact HB.out | apply below_alloc | apply pw_below_drewN | apply below_drew1) | exact HB.out)⟩
                  · replace c45 := Bool.eq_false_iff.mpr c45
                    subst c45
                    have H1 : (some false) = some r := by rw [if_neg (show ¬ (false = true) by decide)] at H; exact H
                    clear H
                    have H := H1
                    clear H1
                    obtain rfl := Option.some.inj H
                    go_wp2
                    go_ret
                    exact ⟨by first | rfl | (simp [errW_none, errW_some] <;> rfl) | (simp [*, errW_none, errW_some] <;> rfl), by repeat (first | (with_reducible first | exact HB.out | apply below_alloc | apply pw_below_drewN | apply below_drew1) | exact HB.out)⟩
                · rw [if_neg c44] at H
                  have c44b0 : (t130 == 0) = false := beq_eq_false_iff_ne.mpr c44
                  have c44b1 : (t130 != 0) = true := bne_iff_ne.mpr c44
                  by_cases c48 : t119 = true
                  · subst c48
                    have H1 : (some false) = some r := by rw [if_pos rfl] at H; exact H
                    clear H
                    have H := H1
                    clear H1
                    obtain rfl := Option.some.inj H
                    go_wp2
                    go_ret
                    exact ⟨by first | rfl | (simp [errW_none, errW_some] <;> rfl) | (simp [*, errW_none, errW_some] <;> rfl), by repeat (first | (with_reducible first | exact HB.out | apply below_alloc | apply pw_below_drewN | apply below_drew1) | exact HB.out)⟩
                  · replace c48 := Bool.eq_false_iff.mpr c48
                    subst c48
                    have H1 : (some false) = some r := by rw [if_neg (show ¬ (false = true) by decide)] at H; exact H
                    clear H
                    have H := H1
                    clear H1
                    obtain rfl := Option.some.inj H
                    go_wp2
                    go_ret
                    exact ⟨by first | rfl | (simp [errW_none, errW_some] <;> rfl) | (simp [*, errW_none, errW_some] <;> rfl), by repeat (first | (with_reducible first | exact HB.out | apply below_alloc | apply pw_below_drewN | apply below_drew1) | exact HB.out)⟩
              · rw [if_neg c43] at H
                have c43b0 : decide (0 ≤ a0) = false := decide_eq_false c43
                clear c43
                by_cases c49 : t119 = true
                · subst c49
                  have H1 : (some false) = some r := by rw [if_pos rfl] at H; exact H
                  clear H
                  have H := H1
                  clear H1
                  obtain rfl := Option.some.inj H
                  go_wp2
                  go_ret
                  exact ⟨by first | rfl | (simp [errW_none, errW_some] <;> rfl) | (simp [*, errW_none, errW_some] <;> rfl), by repeat (first | (with_reducible first | exact HB.out | apply below_alloc | apply pw_below_drewN | apply below_drew1) | exact HB.out)⟩
                · replace c49 := Bool.eq_false_iff.mpr c49
                  subst c49
                  have H1 : (some false) = some r := by rw [if_neg (show ¬ (false = true) by decide)] at H; exact H
                  clear H
                  have H := H1
                  clear H1
                  obtain rfl := Option.some.inj H
                  go_wp2
                  go_ret
                  exact ⟨by first | rfl | (simp [errW_none, errW_some] <;> rfl) | (simp [*, errW_none, errW_some] <;> rfl), by repeat (first | (with_reducible first | exact HB.out | apply below_alloc | apply pw_below_drewN | apply below_drew1) | exact HB.out)⟩
          · rw [if_neg c39] at H
            have c39b0 : decide (a0 < 0) = false := decide_eq_false c39
            clear c39
            by_cases c50 : a0 ≥ 0
            · rw [if_pos c50] at H
              have c50b0 : decide (0 ≤ a0) = true := decide_eq_true c50
              clear c50
              by_cases c51 : t130 = 0
              · rw [if_pos c51] at H
                have c51b0 : (t130 == 0) = true := beq_iff_eq.mpr c51
                have c51b1 : (t130 != 0) = false := bne_eq_false_iff_eq.mpr c51
                clear c51
                by_cases c52 : t119 = true
                · subst c52
                  have H1 : (if t129 = a0 then (if t131 = 0 then (some (t132 == 0)) else (some false)) else (some false)) = some r := by rw [if_pos rfl] at H; exact H
                  clear H
                  have H := H1
                  clear H1
                  by_cases c53 : t129 = a0
                  · rw [if_pos c53] at H
                    have c53b0 : (t129 == a0) = true := beq_iff_eq.mpr c53
                    have c53b1 : (t129 != a0) = false := bne_eq_false_iff_eq.mpr c53
                    clear c53
                    by_cases c54 : t131 = 0
                    · rw [if_pos c54] at H
                      have c54b0 : (t131 == 0) = true := beq_iff_eq.mpr c54
                      have c54b1 : (t131 != 0) = false := bne_eq_false_iff_eq.mpr c54
                      clear c54
                      obtain rfl := Option.some.inj H
                      go_wp2
                      go_ret
                      exact ⟨by first | rfl | (simp [errW_none, errW_some] <;> rfl) | (simp [*, errW_none, errW_some] <;> rfl), by repeat (first | (with_reducible first | exact HB.out | apply below_alloc | apply pw_below_drewN | apply below_drew1) | exact HB.out)⟩
                    · rw [if_neg c54] at H
                      have c54b0 : (t131 == 0) = false := beq_eq_false_iff_ne.mpr c54
                      have c54b1 : (t131 != 0) = true := bne_iff_ne.mpr c54
                      obtain rfl := Option.some.inj H
                      go_wp2
                      go_ret
                      exact ⟨by first | rfl | (simp [errW_none, errW_some] <;> rfl) | (simp [*, errW_none, errW_some] <;> rfl), by repeat (first | (with_reducible first | exact HB.out | apply below_alloc | apply pw_below_drewN | apply below_drew1) | exact HB.out)⟩
                  · rw [if_neg c53] at H
                    have c53b0 : (t129 == a0) = false := beq_eq_false_iff_ne.mpr c53
                    have c53b1 : (t129 != a0) = true := bne_iff_ne.mpr c53
                    obtain rfl := Option.some.inj H
                    go_wp2
                    go_ret
                    exact ⟨by first | rfl | (simp [errW_none, errW_some] <;> rfl) | (simp [*, errW_none, errW_some] <;> rfl), by repeat (first | (with_reducible first | exact HB.out | apply below_alloc | apply pw_below_drewN | apply below_drew1) | exact HB.out)⟩
                · replace c52 := Bool.eq_false_iff.mpr c52
                  subst c52
                  have H1 : (some false) = some r := by rw [if_neg (show ¬ (false = true) by decide)] at H; exact H
                  clear H
                  have H := H1
                  clear H1
                  obtain rfl := Option.some.inj H
                  go_wp2
                  go_ret
                  exact ⟨by first | rfl | (simp [errW_none, errW_some] <;> rfl) | (simp [*, errW_none, errW_some] <;> rfl), by repeat (first | (with_reducible first | exact HB.out | apply below_alloc | apply pw_below_drewN | apply below_drew1) | exact HB.out)⟩
              · rw [if_neg c51] at H
                have c51b0 : (t130 == 0) = false := beq_eq_false_iff_ne.mpr c51
                have c51b1 : (t130 != 0) = true := bne_iff_ne.mpr c51
                by_cases c55 : t119 = true
                · subst c55
                  have H1 : (some false) = some r := by rw [if_pos rfl] at H; exact H
                  clear H
                  have H := H1
                  clear H1
                  obtain rfl := Option.some.inj H
                  go_wp2
                  go_ret
                  exact ⟨by first | rfl | (simp [errW_none, errW_some] <;> rfl) | (simp [*, errW_none, errW_some] <;> rfl), by repeat (first | (with_reducible first | exact HB.out | apply below_alloc | apply pw_below_drewN | apply below_drew1) | exact HB.out)⟩
                · replace c55 := Bool.eq_false_iff.mpr c55
                  subst c55
                  have H1 : (some false) = some r := by rw [if_neg (show ¬ (false = true) by decide)] at H; exact H
                  clear H
                  have H := H1
                  clear H1
                  obtain rfl := Option.some.inj H
                  go_wp2
                  go_ret
                  exact ⟨by first | rfl | (simp [errW_none, errW_some] <;> rfl) | (simp [*, errW_none, errW_some] <;> rfl), by repeat (first | (with_reducible first | exact HB.out | apply below_alloc | apply pw_below_drewN | apply below_drew1) | exact HB.out)⟩
            · rw [if_neg c50] at H
              have c50b0 : decide (0 ≤ a0) = false := decide_eq_false c50
              clear c50
              by_cases c56 : t119 = true
              · subst c56
                have H1 : (some false) = some r := by rw [if_pos rfl] at H; exact H
                clear H
                have H := H1
                clear H1
                obtain rfl := Option.some.inj H
                go_wp2
                go_ret
                exact ⟨by first | rfl | (simp [errW_none, errW_some] <;> rfl) | (simp [*, errW_none, errW_some] <;> rfl), by repeat (first | (with_reducible first | exact HB.out | apply below_alloc | apply pw_below_drewN | apply below_drew1) | exact HB.out)⟩
              · replace c56 := Bool.eq_false_iff.mpr c56
                subst c56
                have H1 : (some false) = some r := by rw [if_neg (show ¬ (false = true) by decide)] at H; exact H
                clear H
                have H := H1
                clear H1
                obtain rfl := Option.some.inj H
                go_wp2
                go_ret
                exact ⟨by first | rfl | (simp [errW_none, errW_some] <;> rfl) | (simp [*, errW_none, errW_some] <;> rfl), by repeat (first | (with_reducible first | exact HB.out | apply below_alloc | apply pw_below_drewN | apply below_drew1) | exact HB.out)⟩

/-- THE ONE PURE STATEMENT of quartermasterlaw16_QtyMore: yours. -/
def quartermasterlaw16_QtyMore.Pure : Prop := ∀ (a0 : Int) (a1 : Int) (a2 : Int), (Lit.int .i64 a0).wf = true → (Lit.int .i64 a1).wf = true → (Lit.int .i64 a2).wf = true → ∃ k, quartermasterlaw16_QtyMore.f k a0 a1 a2 = some true
theorem quartermasterlaw16_QtyMore.walk (P : quartermasterlaw16_QtyMore.Pure) (a0 : Int) (a1 : Int) (a2 : Int) (w : World) (w0 : (Lit.int .i64 a0).wf = true) (w1 : (Lit.int .i64 a1).wf = true) (w2 : (Lit.int .i64 a2).wf = true) :
    Calls Try.prog 6 #[.int .i64 a0, .int .i64 a1, .int .i64 a2] w fun e w' => e = .returned (.bool true) ∧ Below w.heap.size w w' := by
  obtain ⟨k, h⟩ := P a0 a1 a2 w0 w1 w2
  refine (quartermasterlaw16_QtyMore.calls k a0 a1 a2 true w h).mono ?_
  rintro e w' ⟨rfl, hd⟩
  exact ⟨rfl, hd⟩

end Go.Proofs.Ytlhmgbaplilbeaa.PQtyMore
