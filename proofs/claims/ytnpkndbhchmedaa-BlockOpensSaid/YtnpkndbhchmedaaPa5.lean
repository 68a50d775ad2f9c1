/- Plain functions, and the walks that show that the Go functions come to them: written by this session's program wip/myprint.py, which runs the kit's print over the translation. No conditions beside those that each contract states. -/
import Derived.Test.YtnpkndbhchmedaaPa0
import Derived.Test.YtnpkndbhchmedaaPa4
import Derived.Test.YtnpkndbhchmedaaExtMore
import Derived.Test.YtnpkndbhchmedaaPaq
namespace Go.Proofs.Ytnpkndbhchmedaa.Pa
open Go.Proofs.Ytnpkndbhchmedaa.Ext
open Go.RowKit Go.Proofs.YtnpkndbhchmedaaW.PrintWords Go.Proofs.YtnpkndbhchmedaaW.PrintLast Go.Proofs.YtnpkndbhchmedaaW.PrintMore
attribute [local go_sem] max2_int min2_int max_two min_two max_three min_three max_four min_four   -- for this text's walks alone
set_option linter.unusedVariables false
set_option linter.unusedSimpArgs false
 
/-! ### quartermasterref07_Class: function 13 -/
def quartermasterref07_Class.j0 : Nat → Bool → Int → Int → Int → Int → Int → List Int → Int → Int → Int → Int → Int → List Int → Option (Int)
 | 0, _, _, _, _, _, _, _, _, _, _, _, _, _ => none
 | k + 1, x25, x246000, x246001, x246002, x246003, x246004, x246005, x256000, x256001, x256002, x256003, x256004, x256005 => if x25 = true then (some 3) else (if x256000 = x246000 then (if x256003 = x246003 then (if x256004 = x246004 then (some 1) else (some 2)) else (some 2)) else (some 2))
def quartermasterref07_Class.f (k : Nat) (l0 : List Int) (a1_0 : Int) (a1_1 : Int) (a1_2 : Int) (a1_3 : Int) (a1_4 : Int) (l1_5 : List Int) : Option (Int) := (quartermasterref07_Open.f k l0).bind fun bt246 => (if bt246.2.2.2.2.2.2 = 0 then (if bt246.2.1 = a1_1 then (quartermasterref07_Class.j0 k (bt246.2.2.1 != a1_2) a1_0 a1_1 a1_2 a1_3 a1_4 l1_5 bt246.1 bt246.2.1 bt246.2.2.1 bt246.2.2.2.1 bt246.2.2.2.2.1 bt246.2.2.2.2.2.1) else (quartermasterref07_Class.j0 k true a1_0 a1_1 a1_2 a1_3 a1_4 l1_5 bt246.1 bt246.2.1 bt246.2.2.1 bt246.2.2.2.1 bt246.2.2.2.2.1 bt246.2.2.2.2.2.1)) else (some 4))
theorem quartermasterref07_Class.mono_l : ∀ k, (∀ y0 y1 y2 y3 y4 y5 y6 y7 y8 y9 y10 y11 y12, LeO (quartermasterref07_Class.j0 k y0 y1 y2 y3 y4 y5 y6 y7 y8 y9 y10 y11 y12) (quartermasterref07_Class.j0 (k + 1) y0 y1 y2 y3 y4 y5 y6 y7 y8 y9 y10 y11 y12))
 | 0 => fun _ _ _ _ _ _ _ _ _ _ _ _ _ r h => by simp [quartermasterref07_Class.j0] at h
 | k + 1 => by
  have ih0 := quartermasterref07_Class.mono_l k
  intro y0 y1 y2 y3 y4 y5 y6 y7 y8 y9 y10 y11 y12
  unfold quartermasterref07_Class.j0
  repeat' first
  | (with_reducible exact ih0 _ _ _ _ _ _ _ _ _ _ _ _ _)
  | (with_reducible exact quartermasterref07_Open.mono _ _)
  | (with_reducible exact LeO.refl _)
  | (with_reducible exact LeO.none _)
  | (with_reducible refine LeO.ite ?_ ?_)
  | (with_reducible refine LeO.bind ?_ (fun _ => ?_))
  | exact ih0 _ _ _ _ _ _ _ _ _ _ _ _ _
  | exact quartermasterref07_Open.mono _ _
  | exact LeO.none _
  | refine LeO.ite ?_ ?_
  | refine LeO.bind ?_ (fun _ => ?_)
theorem quartermasterref07_Class.mono : ∀ a0 a1 a2 a3 a4 a5 a6 k, LeO (quartermasterref07_Class.f k a0 a1 a2 a3 a4 a5 a6) (quartermasterref07_Class.f (k + 1) a0 a1 a2 a3 a4 a5 a6) := by
 intro a0 a1 a2 a3 a4 a5 a6 k
 have ih0 := quartermasterref07_Class.mono_l k
 unfold quartermasterref07_Class.f
 repeat' first
  | (with_reducible exact ih0 _ _ _ _ _ _ _ _ _ _ _ _ _)
  | (with_reducible exact quartermasterref07_Open.mono _ _)
  | (with_reducible exact LeO.refl _)
  | (with_reducible exact LeO.none _)
  | (with_reducible refine LeO.ite ?_ ?_)
  | (with_reducible refine LeO.bind ?_ (fun _ => ?_))
  | exact ih0 _ _ _ _ _ _ _ _ _ _ _ _ _
  | exact quartermasterref07_Open.mono _ _
  | exact LeO.none _
  | refine LeO.ite ?_ ?_
  | refine LeO.bind ?_ (fun _ => ?_)
set_option maxHeartbeats 8000000 in
set_option maxRecDepth 100000 in
theorem quartermasterref07_Class.calls (k : Nat) (A0 : Option Addr) (c0 : Nat) (l0 : List Int) (a1_0 : Int) (a1_1 : Int) (a1_2 : Int) (a1_3 : Int) (a1_4 : Int) (A1_5 : Option Addr) (c1_5 : Nat) (l1_5 : List Int) (r : Int) (w : World) (hr0 : Kd.C (Kd.int .u8) w A0 l0.length l0) (hc0 : l0.length ≤ c0) (hr1_5 : Kd.C (Kd.int .u8) w A1_5 l1_5.length l1_5) (hc1_5 : l1_5.length ≤ c1_5) (h : quartermasterref07_Class.f k l0 a1_0 a1_1 a1_2 a1_3 a1_4 l1_5 = some r) :
 Calls Try.prog 13 #[.slice A0 l0.length c0, .agg #[.int .i64 a1_0, .int .i64 a1_1, .int .i64 a1_2, .int .i64 a1_3, .int .i64 a1_4, .slice A1_5 l1_5.length c1_5]] w fun e w' => e = .returned (.int .i64 r) ∧ Below w.heap.size w w' := by
 have hu24 := Try.underlying24
 have HR0 := Aside0.mk hr0
 have HC0 := Aside0.mk hc0
 clear hr0 hc0
 have HR1_5 := Aside0.mk hr1_5
 have HC1_5 := Aside0.mk hc1_5
 clear hr1_5 hc1_5
 have HB := Aside0.mk (Below.refl w.heap.size w)
 have H : ((quartermasterref07_Open.f k l0).bind fun bt246 => (if bt246.2.2.2.2.2.2 = 0 then (if bt246.2.1 = a1_1 then (quartermasterref07_Class.j0 k (bt246.2.2.1 != a1_2) a1_0 a1_1 a1_2 a1_3 a1_4 l1_5 bt246.1 bt246.2.1 bt246.2.2.1 bt246.2.2.2.1 bt246.2.2.2.2.1 bt246.2.2.2.2.2.1) else (quartermasterref07_Class.j0 k true a1_0 a1_1 a1_2 a1_3 a1_4 l1_5 bt246.1 bt246.2.1 bt246.2.2.1 bt246.2.2.2.1 bt246.2.2.2.2.1 bt246.2.2.2.2.2.1)) else (some 4))) = some r := h
 clear h
 replace H := Option.bind_eq_some_iff.mp H
 obtain ⟨⟨t246, t247, t248, t249, t250, t251, t254⟩, A30, H⟩ := H
 replace H : (if t254 = 0 then (if t247 = a1_1 then (quartermasterref07_Class.j0 k (t248 != a1_2) a1_0 a1_1 a1_2 a1_3 a1_4 l1_5 t246 t247 t248 t249 t250 t251) else (quartermasterref07_Class.j0 k true a1_0 a1_1 a1_2 a1_3 a1_4 l1_5 t246 t247 t248 t249 t250 t251)) else (some 4)) = some r := H
 have A3 := Aside0.mk A30
 clear A30
 by_cases c4 : t254 = 0
 rotate_left
 ·rw [if_neg c4] at H
  have c4b0 : (t254 == 0) = false := beq_eq_false_iff_ne.mpr c4
  have c4b1 : (t254 != 0) = true := bne_iff_ne.mpr c4
  obtain rfl := Option.some.inj H
  go_enter Try.func13, Try.ntmps13
  go_wp2_with (first | ((with_reducible refine gate_dst (N := 3) rfl ?_); refine box_event ?hg (N := 3) ?hd (cs := #[.int .i64 a1_0, .int .i64 a1_1, .int .i64 a1_2, .int .i64 a1_3, .int .i64 a1_4, .slice A1_5 l1_5.length c1_5]) (t := 24) ?hr ?_; (case hd => rfl); (case hg => rfl); (case hr => first | (go_simp; done) | (go_simp; rfl)); intro gb245 hg w35 hbox hb; have n0_ := Aside0.mk (below_step (by repeat (first | (with_reducible first | exact HB.out | apply below_alloc | apply pw_below_drewN | apply below_drew1) | exact HB.out)) hb); have n1_ := Aside0.mk (hbox); have n2_ := Aside0.mk ((by rw [hg]; exact (below_size (by repeat (first | (with_reducible first | exact HB.out | apply below_alloc | apply pw_below_drewN | apply below_drew1) | exact HB.out))) : w.heap.size ≤ gb245)); have n3_ := Aside0.mk ((by rw [hg]; exact (below_size (by repeat (first | (with_reducible first | exact HB.out | apply below_alloc | apply pw_below_drewN | apply below_drew1) | exact HB.out))) : w.heap.size ≤ gb245)); clear HB; have HB := n0_; have BK245 := n1_; have GW245 := n2_; have GE245 := n3_; clear n0_ n1_ n2_ n3_; clear hb hbox hg) | ((with_reducible refine gate_callee (f := 10) rfl ?_); refine goesL_ (some 9) rfl rfl Try.func10 (by kernel_rfl) rfl #[.slice A0 l0.length c0] rfl (by (try simp only [List.map_toArray, List.map_cons, List.map_nil]); first | done | rfl | (simp only [List.length_drop, List.length_take]; rfl)) ?_; (with_reducible refine (quartermasterref07_Open.calls k _ _ l0 t246 t247 t248 t249 t250 t251 t254 _ ?side1 ?side2 A3.out).mono ?_); (case side1 => repeat (first | exact (Kd.C_below HR0.out HB.out) | (with_reducible refine Kd.C_alloc ?_ _) | (with_reducible refine Kd.C_drewN ?_ _) | (with_reducible refine Kd.C_drew ?_))); (case side2 => exact HC0.out); rintro e w36 ⟨v252, rfl, ho0, hb⟩; refine ⟨_, rfl, ?_⟩; have n0_ := Aside0.mk (Kd.R_lower ho0 (below_size (by repeat (first | (with_reducible first | exact HB.out | apply below_alloc | apply pw_below_drewN | apply below_drew1 | refine below_set ?_ GE245.out) | exact HB.out)))); have n1_ := Aside0.mk (blk_below (g := gb245) (o := .cells #[.int .i64 a1_0, .int .i64 a1_1, .int .i64 a1_2, .int .i64 a1_3, .int .i64 a1_4, .slice A1_5 l1_5.length c1_5] 24 (0, 0)) (by (with_reducible repeat (first | refine blk_drewN ?_ _ | refine blk_drew ?_ | refine blk_alloc ?_ _)); exact BK245.out) hb); have n2_ := Aside0.mk (below_step (by repeat (first | (with_reducible first | exact HB.out | apply below_alloc | apply pw_below_drewN | apply below_drew1 | refine below_set ?_ GE245.out) | exact HB.out)) hb); clear BK245; clear HB; have HO253 := n0_; have BK245 := n1_; have HB := n2_; clear n0_ n1_ n2_; (try clear hb); (try clear hb2); (try clear hk); (try clear hi); (try clear ho0)) | ((with_reducible refine gate_dst (N := 5) rfl ?_); refine box_event ?hg (N := 5) ?hd (cs := #[.int .i64 0, .int .i64 0, .int .i64 0, .int .i64 0, .int .i64 0, .slice none 0 0]) (t := 24) ?hr ?_; (case hd => rfl); (case hg => rfl); (case hr => first | (go_simp; done) | (go_simp; rfl)); intro gb255 hg w37 hbox hb; have n0_ := Aside0.mk (Kd.R_below (by (with_reducible repeat (first | apply Kd.R_alloc | apply Kd.R_drewN | apply Kd.R_drew)); exact HO253.out) hb); have n1_ := Aside0.mk (blk_below (g := gb245) (o := .cells #[.int .i64 a1_0, .int .i64 a1_1, .int .i64 a1_2, .int .i64 a1_3, .int .i64 a1_4, .slice A1_5 l1_5.length c1_5] 24 (0, 0)) (by (with_reducible repeat (first | refine blk_drewN ?_ _ | refine blk_drew ?_ | refine blk_alloc ?_ _)); exact BK245.out) hb); have n2_ := Aside0.mk (below_step (by repeat (first | (with_reducible first | exact HB.out | apply below_alloc | apply pw_below_drewN | apply below_drew1 | refine below_set ?_ GE245.out) | exact HB.out)) hb); have n3_ := Aside0.mk (hbox); have n4_ := Aside0.mk ((by rw [hg]; exact (below_size (by repeat (first | (with_reducible first | exact HB.out | apply below_alloc | apply pw_below_drewN | apply below_drew1 | refine below_set ?_ GE245.out) | exact HB.out))) : w.heap.size ≤ gb255)); have n5_ := Aside0.mk ((by rw [hg]; exact (below_size (by repeat (first | (with_reducible first | exact HB.out | apply below_alloc | apply pw_below_drewN | apply below_drew1 | refine below_set ?_ GE245.out) | exact HB.out))) : w.heap.size ≤ gb255)); have n6_ := Aside0.mk ((by rw [hg]; exact Nat.ne_of_lt (blk_lt (g := gb245) (o := .cells #[.int .i64 a1_0, .int .i64 a1_1, .int .i64 a1_2, .int .i64 a1_3, .int .i64 a1_4, .slice A1_5 l1_5.length c1_5] 24 (0, 0)) (by (with_reducible repeat (first | refine blk_drewN ?_ _ | refine blk_drew ?_ | refine blk_alloc ?_ _)); exact BK245.out)) : gb245 ≠ gb255)); have n7_ := Aside0.mk ((by rw [hg]; exact Nat.ne_of_gt (blk_lt (g := gb245) (o := .cells #[.int .i64 a1_0, .int .i64 a1_1, .int .i64 a1_2, .int .i64 a1_3, .int .i64 a1_4, .slice A1_5 l1_5.length c1_5] 24 (0, 0)) (by (with_reducible repeat (first | refine blk_drewN ?_ _ | refine blk_drew ?_ | refine blk_alloc ?_ _)); exact BK245.out)) : gb255 ≠ gb245)); clear HO253; clear BK245; clear HB; have HO253 := n0_; have BK245 := n1_; have HB := n2_; have BK255 := n3_; have GW255 := n4_; have GE255 := n5_; have NB245_255 := n6_; have NB255_245 := n7_; clear n0_ n1_ n2_ n3_ n4_ n5_ n6_ n7_; clear hb hbox hg; have hnb38 := NB255_245.out; have hnc38 := NB245_255.out; have hcz39_0 : w37.cell? ⟨gb255, 0, none⟩ = some (.int .i64 0) := (blk_cell BK255.out 0).trans rfl; have hcz39_1 : w37.cell? ⟨gb255, 1, none⟩ = some (.int .i64 0) := (blk_cell BK255.out 1).trans rfl; have hcz39_2 : w37.cell? ⟨gb255, 2, none⟩ = some (.int .i64 0) := (blk_cell BK255.out 2).trans rfl; have hcz39_3 : w37.cell? ⟨gb255, 3, none⟩ = some (.int .i64 0) := (blk_cell BK255.out 3).trans rfl; have hcz39_4 : w37.cell? ⟨gb255, 4, none⟩ = some (.int .i64 0) := (blk_cell BK255.out 4).trans rfl; have hcz39_5 : w37.cell? ⟨gb255, 5, none⟩ = some (.slice none 0 0) := (blk_cell BK255.out 5).trans rfl; have hfz39_0 := blk_frozen BK255.out 0; have hfz39_1 := blk_frozen BK255.out 1; have hfz39_2 := blk_frozen BK255.out 2; have hfz39_3 := blk_frozen BK255.out 3; have hfz39_4 := blk_frozen BK255.out 4; have hfz39_5 := blk_frozen BK255.out 5; obtain ⟨Ao40, co40, eo40⟩ := Kd.R_slice HO253.out; subst eo40))
  go_ret
  exact ⟨by first | rfl | (simp [errW_none, errW_some] <;> rfl) | (simp [*, errW_none, errW_some] <;> rfl), by repeat (first | (with_reducible first | exact HB.out | apply below_alloc | apply pw_below_drewN | apply below_drew1 | refine below_set ?_ GE245.out | refine below_set ?_ GE255.out) | exact HB.out)⟩
   
 rw [if_pos c4] at H
 have c4b0 : (t254 == 0) = true := beq_iff_eq.mpr c4
 have c4b1 : (t254 != 0) = false := bne_eq_false_iff_eq.mpr c4
 clear c4
 have HC5 := Aside0.mk H
 clear H
 go_enter Try.func13, Try.ntmps13
 go_upto_region 4 with (first | ((with_reducible refine gate_dst (N := 3) rfl ?_); refine box_event ?hg (N := 3) ?hd (cs := #[.int .i64 a1_0, .int .i64 a1_1, .int .i64 a1_2, .int .i64 a1_3, .int .i64 a1_4, .slice A1_5 l1_5.length c1_5]) (t := 24) ?hr ?_; (case hd => rfl); (case hg => rfl); (case hr => first | (go_simp; done) | (go_simp; rfl)); intro gb245 hg w6 hbox hb; have n0_ := Aside0.mk (below_step (by repeat (first | (with_reducible first | exact HB.out | apply below_alloc | apply pw_below_drewN | apply below_drew1) | exact HB.out)) hb); have n1_ := Aside0.mk (hbox); have n2_ := Aside0.mk ((by rw [hg]; exact (below_size (by repeat (first | (with_reducible first | exact HB.out | apply below_alloc | apply pw_below_drewN | apply below_drew1) | exact HB.out))) : w.heap.size ≤ gb245)); have n3_ := Aside0.mk ((by rw [hg]; exact (below_size (by repeat (first | (with_reducible first | exact HB.out | apply below_alloc | apply pw_below_drewN | apply below_drew1) | exact HB.out))) : w.heap.size ≤ gb245)); clear HB; have HB := n0_; have BK245 := n1_; have GW245 := n2_; have GE245 := n3_; clear n0_ n1_ n2_ n3_; clear hb hbox hg) | ((with_reducible refine gate_callee (f := 10) rfl ?_); refine goesL_ (some 9) rfl rfl Try.func10 (by kernel_rfl) rfl #[.slice A0 l0.length c0] rfl (by (try simp only [List.map_toArray, List.map_cons, List.map_nil]); first | done | rfl | (simp only [List.length_drop, List.length_take]; rfl)) ?_; (with_reducible refine (quartermasterref07_Open.calls k _ _ l0 t246 t247 t248 t249 t250 t251 t254 _ ?side1 ?side2 A3.out).mono ?_); (case side1 => repeat (first | exact (Kd.C_below HR0.out HB.out) | (with_reducible refine Kd.C_alloc ?_ _) | (with_reducible refine Kd.C_drewN ?_ _) | (with_reducible refine Kd.C_drew ?_))); (case side2 => exact HC0.out); rintro e w7 ⟨v252, rfl, ho0, hb⟩; refine ⟨_, rfl, ?_⟩; have n0_ := Aside0.mk (Kd.R_lower ho0 (below_size (by repeat (first | (with_reducible first | exact HB.out | apply below_alloc | apply pw_below_drewN | apply below_drew1 | refine below_set ?_ GE245.out) | exact HB.out)))); have n1_ := Aside0.mk (blk_below (g := gb245) (o := .cells #[.int .i64 a1_0, .int .i64 a1_1, .int .i64 a1_2, .int .i64 a1_3, .int .i64 a1_4, .slice A1_5 l1_5.length c1_5] 24 (0, 0)) (by (with_reducible repeat (first | refine blk_drewN ?_ _ | refine blk_drew ?_ | refine blk_alloc ?_ _)); exact BK245.out) hb); have n2_ := Aside0.mk (below_step (by repeat (first | (with_reducible first | exact HB.out | apply below_alloc | apply pw_below_drewN | apply below_drew1 | refine below_set ?_ GE245.out) | exact HB.out)) hb); clear BK245; clear HB; have HO253 := n0_; have BK245 := n1_; have HB := n2_; clear n0_ n1_ n2_; (try clear hb); (try clear hb2); (try clear hk); (try clear hi); (try clear ho0)) | ((with_reducible refine gate_dst (N := 5) rfl ?_); refine box_event ?hg (N := 5) ?hd (cs := #[.int .i64 0, .int .i64 0, .int .i64 0, .int .i64 0, .int .i64 0, .slice none 0 0]) (t := 24) ?hr ?_; (case hd => rfl); (case hg => rfl); (case hr => first | (go_simp; done) | (go_simp; rfl)); intro gb255 hg w8 hbox hb; have n0_ := Aside0.mk (Kd.R_below (by (with_reducible repeat (first | apply Kd.R_alloc | apply Kd.R_drewN | apply Kd.R_drew)); exact HO253.out) hb); have n1_ := Aside0.mk (blk_below (g := gb245) (o := .cells #[.int .i64 a1_0, .int .i64 a1_1, .int .i64 a1_2, .int .i64 a1_3, .int .i64 a1_4, .slice A1_5 l1_5.length c1_5] 24 (0, 0)) (by (with_reducible repeat (first | refine blk_drewN ?_ _ | refine blk_drew ?_ | refine blk_alloc ?_ _)); exact BK245.out) hb); have n2_ := Aside0.mk (below_step (by repeat (first | (with_reducible first | exact HB.out | apply below_alloc | apply pw_below_drewN | apply below_drew1 | refine below_set ?_ GE245.out) | exact HB.out)) hb); have n3_ := Aside0.mk (hbox); have n4_ := Aside0.mk ((by rw [hg]; exact (below_size (by repeat (first | (with_reducible first | exact HB.out | apply below_alloc | apply pw_below_drewN | apply below_drew1 | refine below_set ?_ GE245.out) | exact HB.out))) : w.heap.size ≤ gb255)); have n5_ := Aside0.mk ((by rw [hg]; exact (below_size (by repeat (first | (with_reducible first | exact HB.out | apply below_alloc | apply pw_below_drewN | apply below_drew1 | refine below_set ?_ GE245.out) | exact HB.out))) : w.heap.size ≤ gb255)); have n6_ := Aside0.mk ((by rw [hg]; exact Nat.ne_of_lt (blk_lt (g := gb245) (o := .cells #[.int .i64 a1_0, .int .i64 a1_1, .int .i64 a1_2, .int .i64 a1_3, .int .i64 a1_4, .slice A1_5 l1_5.length c1_5] 24 (0, 0)) (by (with_reducible repeat (first | refine blk_drewN ?_ _ | refine blk_drew ?_ | refine blk_alloc ?_ _)); exact BK245.out)) : gb245 ≠ gb255)); have n7_ := Aside0.mk ((by rw [hg]; exact Nat.ne_of_gt (blk_lt (g := gb245) (o := .cells #[.int .i64 a1_0, .int .i64 a1_1, .int .i64 a1_2, .int .i64 a1_3, .int .i64 a1_4, .slice A1_5 l1_5.length c1_5] 24 (0, 0)) (by (with_reducible repeat (first | refine blk_drewN ?_ _ | refine blk_drew ?_ | refine blk_alloc ?_ _)); exact BK245.out)) : gb255 ≠ gb245)); clear HO253; clear BK245; clear HB; have HO253 := n0_; have BK245 := n1_; have HB := n2_; have BK255 := n3_; have GW255 := n4_; have GE255 := n5_; have NB245_255 := n6_; have NB255_245 := n7_; clear n0_ n1_ n2_ n3_ n4_ n5_ n6_ n7_; clear hb hbox hg; have hnb9 := NB255_245.out; have hnc9 := NB245_255.out; have hcz10_0 : w8.cell? ⟨gb255, 0, none⟩ = some (.int .i64 0) := (blk_cell BK255.out 0).trans rfl; have hcz10_1 : w8.cell? ⟨gb255, 1, none⟩ = some (.int .i64 0) := (blk_cell BK255.out 1).trans rfl; have hcz10_2 : w8.cell? ⟨gb255, 2, none⟩ = some (.int .i64 0) := (blk_cell BK255.out 2).trans rfl; have hcz10_3 : w8.cell? ⟨gb255, 3, none⟩ = some (.int .i64 0) := (blk_cell BK255.out 3).trans rfl; have hcz10_4 : w8.cell? ⟨gb255, 4, none⟩ = some (.int .i64 0) := (blk_cell BK255.out 4).trans rfl; have hcz10_5 : w8.cell? ⟨gb255, 5, none⟩ = some (.slice none 0 0) := (blk_cell BK255.out 5).trans rfl; have hfz10_0 := blk_frozen BK255.out 0; have hfz10_1 := blk_frozen BK255.out 1; have hfz10_2 := blk_frozen BK255.out 2; have hfz10_3 := blk_frozen BK255.out 3; have hfz10_4 := blk_frozen BK255.out 4; have hfz10_5 := blk_frozen BK255.out 5; obtain ⟨Ao11, co11, eo11⟩ := Kd.R_slice HO253.out; subst eo11))
 (try simp only [Act.put, List.setIfInBounds_toArray, List.set_cons_zero, List.set_cons_succ])
 go_cut [25] (fun v25 wc => ∃ (kq : Nat) (x25_4 : Bool), v25 = .bool x25_4 ∧ Aside0 (quartermasterref07_Class.j0 kq x25_4 a1_0 a1_1 a1_2 a1_3 a1_4 l1_5 t246 t247 t248 t249 t250 t251 = some r) ∧ Aside0 (kq ≤ k) ∧ Aside0 (Kd.R (Kd.int .u8) 5 wc w.heap.size (fun _ => True) (.slice Ao11 t251.length co11) t251) ∧ Aside0 (wc.heap[gb245]? = some (.cells #[.int .i64 a1_0, .int .i64 a1_1, .int .i64 a1_2, .int .i64 a1_3, .int .i64 a1_4, (.slice A1_5 l1_5.length c1_5)] 24 (0, 0))) ∧ Aside0 (wc.heap[gb255]? = some (.cells #[.int .i64 t246, .int .i64 t247, .int .i64 t248, .int .i64 t249, .int .i64 t250, (.slice Ao11 t251.length co11)] 24 (0, 0))) ∧ Aside0 (Below w.heap.size w wc))
 case first =>
  have H := HC5.out
  clear HC5
  by_cases c12 : t247 = a1_1
  rotate_left
  ·rw [if_neg c12] at H
   have c12b0 : (t247 == a1_1) = false := beq_eq_false_iff_ne.mpr c12
   have c12b1 : (t247 != a1_1) = true := bne_iff_ne.mpr c12
   (first | rw [c12b0] | (simp only [i64_w, i32_w]; rw [c12b0]) | skip)
   have H' := Aside0.mk H
   clear H
   have hnb16 := NB255_245.out
   have hnc16 := NB245_255.out
   have hcz17_0 : w8.cell? ⟨gb255, 0, none⟩ = some (.int .i64 0) := (blk_cell BK255.out 0).trans rfl
   have hcz17_1 : w8.cell? ⟨gb255, 1, none⟩ = some (.int .i64 0) := (blk_cell BK255.out 1).trans rfl
   have hcz17_2 : w8.cell? ⟨gb255, 2, none⟩ = some (.int .i64 0) := (blk_cell BK255.out 2).trans rfl
   have hcz17_3 : w8.cell? ⟨gb255, 3, none⟩ = some (.int .i64 0) := (blk_cell BK255.out 3).trans rfl
   have hcz17_4 : w8.cell? ⟨gb255, 4, none⟩ = some (.int .i64 0) := (blk_cell BK255.out 4).trans rfl
   have hcz17_5 : w8.cell? ⟨gb255, 5, none⟩ = some (.slice none 0 0) := (blk_cell BK255.out 5).trans rfl
   have hfz17_0 := blk_frozen BK255.out 0
   have hfz17_1 := blk_frozen BK255.out 1
   have hfz17_2 := blk_frozen BK255.out 2
   have hfz17_3 := blk_frozen BK255.out 3
   have hfz17_4 := blk_frozen BK255.out 4
   have hfz17_5 := blk_frozen BK255.out 5
   have hcz18_0 : w8.cell? ⟨gb245, 0, none⟩ = some (.int .i64 a1_0) := (blk_cell BK245.out 0).trans rfl
   have hcz18_1 : w8.cell? ⟨gb245, 1, none⟩ = some (.int .i64 a1_1) := (blk_cell BK245.out 1).trans rfl
   have hcz18_2 : w8.cell? ⟨gb245, 2, none⟩ = some (.int .i64 a1_2) := (blk_cell BK245.out 2).trans rfl
   have hcz18_3 : w8.cell? ⟨gb245, 3, none⟩ = some (.int .i64 a1_3) := (blk_cell BK245.out 3).trans rfl
   have hcz18_4 : w8.cell? ⟨gb245, 4, none⟩ = some (.int .i64 a1_4) := (blk_cell BK245.out 4).trans rfl
   have hcz18_5 : w8.cell? ⟨gb245, 5, none⟩ = some (.slice A1_5 l1_5.length c1_5) := (blk_cell BK245.out 5).trans rfl
   have hfz18_0 := blk_frozen BK245.out 0
   have hfz18_1 := blk_frozen BK245.out 1
   have hfz18_2 := blk_frozen BK245.out 2
   have hfz18_3 := blk_frozen BK245.out 3
   have hfz18_4 := blk_frozen BK245.out 4
   have hfz18_5 := blk_frozen BK245.out 5
   go_wp2
   go_meet
   case rel => exact ⟨_, (true), (by first | rfl | (simp; done) | (simp [*]; done)), H', ⟨by first | omega | exact Nat.le_refl _⟩, ⟨by (with_reducible repeat (first | apply Kd.R_alloc | apply Kd.R_drewN | apply Kd.R_drew)); exact Kd.R_mono (Kd.R_far (p := ⟨gb255, 5, none⟩) (Kd.R_far (p := ⟨gb255, 4, none⟩) (Kd.R_far (p := ⟨gb255, 3, none⟩) (Kd.R_far (p := ⟨gb255, 2, none⟩) (Kd.R_far (p := ⟨gb255, 1, none⟩) (Kd.R_far (p := ⟨gb255, 0, none⟩) (Kd.R_types HO253.out BK255.out (by decide)) (fun _ hk => hk.2) (.int .i64 t246)) (fun _ hk => hk.2) (.int .i64 t247)) (fun _ hk => hk.2) (.int .i64 t248)) (fun _ hk => hk.2) (.int .i64 t249)) (fun _ hk => hk.2) (.int .i64 t250)) (fun _ hk => hk.2) (.slice Ao11 t251.length co11)) (fun _ hk => trivial)⟩, ⟨by (with_reducible repeat (first | refine blk_drewN ?_ _ | refine blk_drew ?_ | refine blk_alloc ?_ _)); refine blk_far ?_ NB245_255.out _; (with_reducible repeat (first | refine blk_drewN ?_ _ | refine blk_drew ?_ | refine blk_alloc ?_ _)); refine blk_far ?_ NB245_255.out _; (with_reducible repeat (first | refine blk_drewN ?_ _ | refine blk_drew ?_ | refine blk_alloc ?_ _)); refine blk_far ?_ NB245_255.out _; (with_reducible repeat (first | refine blk_drewN ?_ _ | refine blk_drew ?_ | refine blk_alloc ?_ _)); refine blk_far ?_ NB245_255.out _; (with_reducible repeat (first | refine blk_drewN ?_ _ | refine blk_drew ?_ | refine blk_alloc ?_ _)); refine blk_far ?_ NB245_255.out _; (with_reducible repeat (first | refine blk_drewN ?_ _ | refine blk_drew ?_ | refine blk_alloc ?_ _)); refine blk_far ?_ NB245_255.out _; (with_reducible repeat (first | refine blk_drewN ?_ _ | refine blk_drew ?_ | refine blk_alloc ?_ _)); exact BK245.out⟩, ⟨by (with_reducible repeat (first | refine blk_drewN ?_ _ | refine blk_drew ?_ | refine blk_alloc ?_ _)); refine blk_put (cs := #[.int .i64 t246, .int .i64 t247, .int .i64 t248, .int .i64 t249, .int .i64 t250, .slice none 0 0]) ?_ 5 _ rfl; (with_reducible repeat (first | refine blk_drewN ?_ _ | refine blk_drew ?_ | refine blk_alloc ?_ _)); refine blk_put (cs := #[.int .i64 t246, .int .i64 t247, .int .i64 t248, .int .i64 t249, .int .i64 0, .slice none 0 0]) ?_ 4 _ rfl; (with_reducible repeat (first | refine blk_drewN ?_ _ | refine blk_drew ?_ | refine blk_alloc ?_ _)); refine blk_put (cs := #[.int .i64 t246, .int .i64 t247, .int .i64 t248, .int .i64 0, .int .i64 0, .slice none 0 0]) ?_ 3 _ rfl; (with_reducible repeat (first | refine blk_drewN ?_ _ | refine blk_drew ?_ | refine blk_alloc ?_ _)); refine blk_put (cs := #[.int .i64 t246, .int .i64 t247, .int .i64 0, .int .i64 0, .int .i64 0, .slice none 0 0]) ?_ 2 _ rfl; (with_reducible repeat (first | refine blk_drewN ?_ _ | refine blk_drew ?_ | refine blk_alloc ?_ _)); refine blk_put (cs := #[.int .i64 t246, .int .i64 0, .int .i64 0, .int .i64 0, .int .i64 0, .slice none 0 0]) ?_ 1 _ rfl; (with_reducible repeat (first | refine blk_drewN ?_ _ | refine blk_drew ?_ | refine blk_alloc ?_ _)); refine blk_put (cs := #[.int .i64 0, .int .i64 0, .int .i64 0, .int .i64 0, .int .i64 0, .slice none 0 0]) ?_ 0 _ rfl; (with_reducible repeat (first | refine blk_drewN ?_ _ | refine blk_drew ?_ | refine blk_alloc ?_ _)); exact BK255.out⟩, ⟨by repeat (first | (with_reducible first | exact HB.out | apply below_alloc | apply pw_below_drewN | apply below_drew1 | refine below_set ?_ GE245.out | refine below_set ?_ GE255.out) | exact HB.out)⟩⟩
  rw [if_pos c12] at H
  have c12b0 : (t247 == a1_1) = true := beq_iff_eq.mpr c12
  have c12b1 : (t247 != a1_1) = false := bne_eq_false_iff_eq.mpr c12
  clear c12
  (first | rw [c12b0] | (simp only [i64_w, i32_w]; rw [c12b0]) | skip)
  have H' := Aside0.mk H
  clear H
  have hnb13 := NB255_245.out
  have hnc13 := NB245_255.out
  have hcz14_0 : w8.cell? ⟨gb255, 0, none⟩ = some (.int .i64 0) := (blk_cell BK255.out 0).trans rfl
  have hcz14_1 : w8.cell? ⟨gb255, 1, none⟩ = some (.int .i64 0) := (blk_cell BK255.out 1).trans rfl
  have hcz14_2 : w8.cell? ⟨gb255, 2, none⟩ = some (.int .i64 0) := (blk_cell BK255.out 2).trans rfl
  have hcz14_3 : w8.cell? ⟨gb255, 3, none⟩ = some (.int .i64 0) := (blk_cell BK255.out 3).trans rfl
  have hcz14_4 : w8.cell? ⟨gb255, 4, none⟩ = some (.int .i64 0) := (blk_cell BK255.out 4).trans rfl
  have hcz14_5 : w8.cell? ⟨gb255, 5, none⟩ = some (.slice none 0 0) := (blk_cell BK255.out 5).trans rfl
  have hfz14_0 := blk_frozen BK255.out 0
  have hfz14_1 := blk_frozen BK255.out 1
  have hfz14_2 := blk_frozen BK255.out 2
  have hfz14_3 := blk_frozen BK255.out 3
  have hfz14_4 := blk_frozen BK255.out 4
  have hfz14_5 := blk_frozen BK255.out 5
  have hcz15_0 : w8.cell? ⟨gb245, 0, none⟩ = some (.int .i64 a1_0) := (blk_cell BK245.out 0).trans rfl
  have hcz15_1 : w8.cell? ⟨gb245, 1, none⟩ = some (.int .i64 a1_1) := (blk_cell BK245.out 1).trans rfl
  have hcz15_2 : w8.cell? ⟨gb245, 2, none⟩ = some (.int .i64 a1_2) := (blk_cell BK245.out 2).trans rfl
  have hcz15_3 : w8.cell? ⟨gb245, 3, none⟩ = some (.int .i64 a1_3) := (blk_cell BK245.out 3).trans rfl
  have hcz15_4 : w8.cell? ⟨gb245, 4, none⟩ = some (.int .i64 a1_4) := (blk_cell BK245.out 4).trans rfl
  have hcz15_5 : w8.cell? ⟨gb245, 5, none⟩ = some (.slice A1_5 l1_5.length c1_5) := (blk_cell BK245.out 5).trans rfl
  have hfz15_0 := blk_frozen BK245.out 0
  have hfz15_1 := blk_frozen BK245.out 1
  have hfz15_2 := blk_frozen BK245.out 2
  have hfz15_3 := blk_frozen BK245.out 3
  have hfz15_4 := blk_frozen BK245.out 4
  have hfz15_5 := blk_frozen BK245.out 5
  go_wp2
  go_meet
  case rel => exact ⟨_, ((t248 != a1_2)), (by first | rfl | (simp; done) | (simp [*]; done)), H', ⟨by first | omega | exact Nat.le_refl _⟩, ⟨by (with_reducible repeat (first | apply Kd.R_alloc | apply Kd.R_drewN | apply Kd.R_drew)); exact Kd.R_mono (Kd.R_far (p := ⟨gb255, 5, none⟩) (Kd.R_far (p := ⟨gb255, 4, none⟩) (Kd.R_far (p := ⟨gb255, 3, none⟩) (Kd.R_far (p := ⟨gb255, 2, none⟩) (Kd.R_far (p := ⟨gb255, 1, none⟩) (Kd.R_far (p := ⟨gb255, 0, none⟩) (Kd.R_types HO253.out BK255.out (by decide)) (fun _ hk => hk.2) (.int .i64 t246)) (fun _ hk => hk.2) (.int .i64 t247)) (fun _ hk => hk.2) (.int .i64 t248)) (fun _ hk => hk.2) (.int .i64 t249)) (fun _ hk => hk.2) (.int .i64 t250)) (fun _ hk => hk.2) (.slice Ao11 t251.length co11)) (fun _ hk => trivial)⟩, ⟨by (with_reducible repeat (first | refine blk_drewN ?_ _ | refine blk_drew ?_ | refine blk_alloc ?_ _)); refine blk_far ?_ NB245_255.out _; (with_reducible repeat (first | refine blk_drewN ?_ _ | refine blk_drew ?_ | refine blk_alloc ?_ _)); refine blk_far ?_ NB245_255.out _; (with_reducible repeat (first | refine blk_drewN ?_ _ | refine blk_drew ?_ | refine blk_alloc ?_ _)); refine blk_far ?_ NB245_255.out _; (with_reducible repeat (first | refine blk_drewN ?_ _ | refine blk_drew ?_ | refine blk_alloc ?_ _)); refine blk_far ?_ NB245_255.out _; (with_reducible repeat (first | refine blk_drewN ?_ _ | refine blk_drew ?_ | refine blk_alloc ?_ _)); refine blk_far ?_ NB245_255.out _; (with_reducible repeat (first | refine blk_drewN ?_ _ | refine blk_drew ?_ | refine blk_alloc ?_ _)); refine blk_far ?_ NB245_255.out _; (with_reducible repeat (first | refine blk_drewN ?_ _ | refine blk_drew ?_ | refine blk_alloc ?_ _)); exact BK245.out⟩, ⟨by (with_reducible repeat (first | refine blk_drewN ?_ _ | refine blk_drew ?_ | refine blk_alloc ?_ _)); refine blk_put (cs := #[.int .i64 t246, .int .i64 t247, .int .i64 t248, .int .i64 t249, .int .i64 t250, .slice none 0 0]) ?_ 5 _ rfl; (with_reducible repeat (first | refine blk_drewN ?_ _ | refine blk_drew ?_ | refine blk_alloc ?_ _)); refine blk_put (cs := #[.int .i64 t246, .int .i64 t247, .int .i64 t248, .int .i64 t249, .int .i64 0, .slice none 0 0]) ?_ 4 _ rfl; (with_reducible repeat (first | refine blk_drewN ?_ _ | refine blk_drew ?_ | refine blk_alloc ?_ _)); refine blk_put (cs := #[.int .i64 t246, .int .i64 t247, .int .i64 t248, .int .i64 0, .int .i64 0, .slice none 0 0]) ?_ 3 _ rfl; (with_reducible repeat (first | refine blk_drewN ?_ _ | refine blk_drew ?_ | refine blk_alloc ?_ _)); refine blk_put (cs := #[.int .i64 t246, .int .i64 t247, .int .i64 0, .int .i64 0, .int .i64 0, .slice none 0 0]) ?_ 2 _ rfl; (with_reducible repeat (first | refine blk_drewN ?_ _ | refine blk_drew ?_ | refine blk_alloc ?_ _)); refine blk_put (cs := #[.int .i64 t246, .int .i64 0, .int .i64 0, .int .i64 0, .int .i64 0, .slice none 0 0]) ?_ 1 _ rfl; (with_reducible repeat (first | refine blk_drewN ?_ _ | refine blk_drew ?_ | refine blk_alloc ?_ _)); refine blk_put (cs := #[.int .i64 0, .int .i64 0, .int .i64 0, .int .i64 0, .int .i64 0, .slice none 0 0]) ?_ 0 _ rfl; (with_reducible repeat (first | refine blk_drewN ?_ _ | refine blk_drew ?_ | refine blk_alloc ?_ _)); exact BK255.out⟩, ⟨by repeat (first | (with_reducible first | exact HB.out | apply below_alloc | apply pw_below_drewN | apply below_drew1 | refine below_set ?_ GE245.out | refine below_set ?_ GE255.out) | exact HB.out)⟩⟩
 case rest =>
  clear HC5
  try clear c1
  try clear p2
  try clear c4
  try clear c4b0
  try clear c4b1
  try clear c9
  try clear c10
  try clear c12
  try clear c12b0
  try clear c12b1
  try clear c13
  try clear c16
  try clear hcz10_0
  try clear hcz10_1
  try clear hcz10_2
  try clear hcz10_3
  try clear hcz10_4
  try clear hcz10_5
  try clear hcz14_0
  try clear hcz14_1
  try clear hcz14_2
  try clear hcz14_3
  try clear hcz14_4
  try clear hcz14_5
  try clear hcz15_0
  try clear hcz15_1
  try clear hcz15_2
  try clear hcz15_3
  try clear hcz15_4
  try clear hcz15_5
  try clear hcz17_0
  try clear hcz17_1
  try clear hcz17_2
  try clear hcz17_3
  try clear hcz17_4
  try clear hcz17_5
  try clear hcz18_0
  try clear hcz18_1
  try clear hcz18_2
  try clear hcz18_3
  try clear hcz18_4
  try clear hcz18_5
  try clear hfz10_0
  try clear hfz10_1
  try clear hfz10_2
  try clear hfz10_3
  try clear hfz10_4
  try clear hfz10_5
  try clear hfz14_0
  try clear hfz14_1
  try clear hfz14_2
  try clear hfz14_3
  try clear hfz14_4
  try clear hfz14_5
  try clear hfz15_0
  try clear hfz15_1
  try clear hfz15_2
  try clear hfz15_3
  try clear hfz15_4
  try clear hfz15_5
  try clear hfz17_0
  try clear hfz17_1
  try clear hfz17_2
  try clear hfz17_3
  try clear hfz17_4
  try clear hfz17_5
  try clear hfz18_0
  try clear hfz18_1
  try clear hfz18_2
  try clear hfz18_3
  try clear hfz18_4
  try clear hfz18_5
  obtain ⟨kq, x25_4, rfl, HA, HJ4, HO_256005, BK245, BK255, HB⟩ := hcut
  cases kq with
  | zero => exact absurd HA.out (by simp [quartermasterref07_Class.j0])
  | succ kj4 =>
   have H := HA.out
   clear HA
   simp only [quartermasterref07_Class.j0] at H
   by_cases c19 : x25_4 = true
   ·subst c19
    have H1 : (some 3) = some r := by rw [if_pos rfl] at H; exact H
    clear H
    have H := H1
    clear H1
    obtain rfl := Option.some.inj H
    go_wp2
    go_ret
    exact ⟨by first | rfl | (simp [errW_none, errW_some] <;> rfl) | (simp [*, errW_none, errW_some] <;> rfl), by repeat (first | (with_reducible first | exact HB.out | apply below_alloc | apply pw_below_drewN | apply below_drew1 | refine below_set ?_ GE245.out | refine below_set ?_ GE255.out) | exact HB.out)⟩
   replace c19 := Bool.eq_false_iff.mpr c19
   subst c19
   have H1 : (if t246 = a1_0 then (if t249 = a1_3 then (if t250 = a1_4 then (some 1) else (some 2)) else (some 2)) else (some 2)) = some r := by rw [if_neg (show ¬ (false = true) by decide)] at H; exact H
   clear H
   have H := H1
   clear H1
   by_cases c20 : t246 = a1_0
   rotate_left
   ·rw [if_neg c20] at H
    have c20b0 : (t246 == a1_0) = false := beq_eq_false_iff_ne.mpr c20
    have c20b1 : (t246 != a1_0) = true := bne_iff_ne.mpr c20
    obtain rfl := Option.some.inj H
    have hnb32 := NB255_245.out
    have hnc32 := NB245_255.out
    have hcz33_0 : wc.cell? ⟨gb255, 0, none⟩ = some (.int .i64 t246) := (blk_cell BK255.out 0).trans rfl
    have hcz33_1 : wc.cell? ⟨gb255, 1, none⟩ = some (.int .i64 t247) := (blk_cell BK255.out 1).trans rfl
    have hcz33_2 : wc.cell? ⟨gb255, 2, none⟩ = some (.int .i64 t248) := (blk_cell BK255.out 2).trans rfl
    have hcz33_3 : wc.cell? ⟨gb255, 3, none⟩ = some (.int .i64 t249) := (blk_cell BK255.out 3).trans rfl
    have hcz33_4 : wc.cell? ⟨gb255, 4, none⟩ = some (.int .i64 t250) := (blk_cell BK255.out 4).trans rfl
    have hcz33_5 : wc.cell? ⟨gb255, 5, none⟩ = some (.slice Ao11 t251.length co11) := (blk_cell BK255.out 5).trans rfl
    have hfz33_0 := blk_frozen BK255.out 0
    have hfz33_1 := blk_frozen BK255.out 1
    have hfz33_2 := blk_frozen BK255.out 2
    have hfz33_3 := blk_frozen BK255.out 3
    have hfz33_4 := blk_frozen BK255.out 4
    have hfz33_5 := blk_frozen BK255.out 5
    have hcz34_0 : wc.cell? ⟨gb245, 0, none⟩ = some (.int .i64 a1_0) := (blk_cell BK245.out 0).trans rfl
    have hcz34_1 : wc.cell? ⟨gb245, 1, none⟩ = some (.int .i64 a1_1) := (blk_cell BK245.out 1).trans rfl
    have hcz34_2 : wc.cell? ⟨gb245, 2, none⟩ = some (.int .i64 a1_2) := (blk_cell BK245.out 2).trans rfl
    have hcz34_3 : wc.cell? ⟨gb245, 3, none⟩ = some (.int .i64 a1_3) := (blk_cell BK245.out 3).trans rfl
    have hcz34_4 : wc.cell? ⟨gb245, 4, none⟩ = some (.int .i64 a1_4) := (blk_cell BK245.out 4).trans rfl
    have hcz34_5 : wc.cell? ⟨gb245, 5, none⟩ = some (.slice A1_5 l1_5.length c1_5) := (blk_cell BK245.out 5).trans rfl
    have hfz34_0 := blk_frozen BK245.out 0
    have hfz34_1 := blk_frozen BK245.out 1
    have hfz34_2 := blk_frozen BK245.out 2
    have hfz34_3 := blk_frozen BK245.out 3
    have hfz34_4 := blk_frozen BK245.out 4
    have hfz34_5 := blk_frozen BK245.out 5
    go_wp2
    go_ret
    exact ⟨by first | rfl | (simp [errW_none, errW_some] <;> rfl) | (simp [*, errW_none, errW_some] <;> rfl), by repeat (first | (with_reducible first | exact HB.out | apply below_alloc | apply pw_below_drewN | apply below_drew1 | refine below_set ?_ GE245.out | refine below_set ?_ GE255.out) | exact HB.out)⟩
   rw [if_pos c20] at H
   have c20b0 : (t246 == a1_0) = true := beq_iff_eq.mpr c20
   have c20b1 : (t246 != a1_0) = false := bne_eq_false_iff_eq.mpr c20
   clear c20
   by_cases c21 : t249 = a1_3
   rotate_left
   ·rw [if_neg c21] at H
    have c21b0 : (t249 == a1_3) = false := beq_eq_false_iff_ne.mpr c21
    have c21b1 : (t249 != a1_3) = true := bne_iff_ne.mpr c21
    obtain rfl := Option.some.inj H
    have hnb29 := NB255_245.out
    have hnc29 := NB245_255.out
    have hcz30_0 : wc.cell? ⟨gb255, 0, none⟩ = some (.int .i64 t246) := (blk_cell BK255.out 0).trans rfl
    have hcz30_1 : wc.cell? ⟨gb255, 1, none⟩ = some (.int .i64 t247) := (blk_cell BK255.out 1).trans rfl
    have hcz30_2 : wc.cell? ⟨gb255, 2, none⟩ = some (.int .i64 t248) := (blk_cell BK255.out 2).trans rfl
    have hcz30_3 : wc.cell? ⟨gb255, 3, none⟩ = some (.int .i64 t249) := (blk_cell BK255.out 3).trans rfl
    have hcz30_4 : wc.cell? ⟨gb255, 4, none⟩ = some (.int .i64 t250) := (blk_cell BK255.out 4).trans rfl
    have hcz30_5 : wc.cell? ⟨gb255, 5, none⟩ = some (.slice Ao11 t251.length co11) := (blk_cell BK255.out 5).trans rfl
    have hfz30_0 := blk_frozen BK255.out 0
    have hfz30_1 := blk_frozen BK255.out 1
    have hfz30_2 := blk_frozen BK255.out 2
    have hfz30_3 := blk_frozen BK255.out 3
    have hfz30_4 := blk_frozen BK255.out 4
    have hfz30_5 := blk_frozen BK255.out 5
    have hcz31_0 : wc.cell? ⟨gb245, 0, none⟩ = some (.int .i64 a1_0) := (blk_cell BK245.out 0).trans rfl
    have hcz31_1 : wc.cell? ⟨gb245, 1, none⟩ = some (.int .i64 a1_1) := (blk_cell BK245.out 1).trans rfl
    have hcz31_2 : wc.cell? ⟨gb245, 2, none⟩ = some (.int .i64 a1_2) := (blk_cell BK245.out 2).trans rfl
    have hcz31_3 : wc.cell? ⟨gb245, 3, none⟩ = some (.int .i64 a1_3) := (blk_cell BK245.out 3).trans rfl
    have hcz31_4 : wc.cell? ⟨gb245, 4, none⟩ = some (.int .i64 a1_4) := (blk_cell BK245.out 4).trans rfl
    have hcz31_5 : wc.cell? ⟨gb245, 5, none⟩ = some (.slice A1_5 l1_5.length c1_5) := (blk_cell BK245.out 5).trans rfl
    have hfz31_0 := blk_frozen BK245.out 0
    have hfz31_1 := blk_frozen BK245.out 1
    have hfz31_2 := blk_frozen BK245.out 2
    have hfz31_3 := blk_frozen BK245.out 3
    have hfz31_4 := blk_frozen BK245.out 4
    have hfz31_5 := blk_frozen BK245.out 5
    go_wp2
    go_ret
    exact ⟨by first | rfl | (simp [errW_none, errW_some] <;> rfl) | (simp [*, errW_none, errW_some] <;> rfl), by repeat (first | (with_reducible first | exact HB.out | apply below_alloc | apply pw_below_drewN | apply below_drew1 | refine below_set ?_ GE245.out | refine below_set ?_ GE255.out) | exact HB.out)⟩
   rw [if_pos c21] at H
   have c21b0 : (t249 == a1_3) = true := beq_iff_eq.mpr c21
   have c21b1 : (t249 != a1_3) = false := bne_eq_false_iff_eq.mpr c21
   clear c21
   by_cases c22 : t250 = a1_4
   rotate_left
   ·rw [if_neg c22] at H
    have c22b0 : (t250 == a1_4) = false := beq_eq_false_iff_ne.mpr c22
    have c22b1 : (t250 != a1_4) = true := bne_iff_ne.mpr c22
    obtain rfl := Option.some.inj H
    have hnb26 := NB255_245.out
    have hnc26 := NB245_255.out
    have hcz27_0 : wc.cell? ⟨gb255, 0, none⟩ = some (.int .i64 t246) := (blk_cell BK255.out 0).trans rfl
    have hcz27_1 : wc.cell? ⟨gb255, 1, none⟩ = some (.int .i64 t247) := (blk_cell BK255.out 1).trans rfl
    have hcz27_2 : wc.cell? ⟨gb255, 2, none⟩ = some (.int .i64 t248) := (blk_cell BK255.out 2).trans rfl
    have hcz27_3 : wc.cell? ⟨gb255, 3, none⟩ = some (.int .i64 t249) := (blk_cell BK255.out 3).trans rfl
    have hcz27_4 : wc.cell? ⟨gb255, 4, none⟩ = some (.int .i64 t250) := (blk_cell BK255.out 4).trans rfl
    have hcz27_5 : wc.cell? ⟨gb255, 5, none⟩ = some (.slice Ao11 t251.length co11) := (blk_cell BK255.out 5).trans rfl
    have hfz27_0 := blk_frozen BK255.out 0
    have hfz27_1 := blk_frozen BK255.out 1
    have hfz27_2 := blk_frozen BK255.out 2
    have hfz27_3 := blk_frozen BK255.out 3
    have hfz27_4 := blk_frozen BK255.out 4
    have hfz27_5 := blk_frozen BK255.out 5
    have hcz28_0 : wc.cell? ⟨gb245, 0, none⟩ = some (.int .i64 a1_0) := (blk_cell BK245.out 0).trans rfl
    have hcz28_1 : wc.cell? ⟨gb245, 1, none⟩ = some (.int .i64 a1_1) := (blk_cell BK245.out 1).trans rfl
    have hcz28_2 : wc.cell? ⟨gb245, 2, none⟩ = some (.int .i64 a1_2) := (blk_cell BK245.out 2).trans rfl
    have hcz28_3 : wc.cell? ⟨gb245, 3, none⟩ = some (.int .i64 a1_3) := (blk_cell BK245.out 3).trans rfl
    have hcz28_4 : wc.cell? ⟨gb245, 4, none⟩ = some (.int .i64 a1_4) := (blk_cell BK245.out 4).trans rfl
    have hcz28_5 : wc.cell? ⟨gb245, 5, none⟩ = some (.slice A1_5 l1_5.length c1_5) := (blk_cell BK245.out 5).trans rfl
    have hfz28_0 := blk_frozen BK245.out 0
    have hfz28_1 := blk_frozen BK245.out 1
    have hfz28_2 := blk_frozen BK245.out 2
    have hfz28_3 := blk_frozen BK245.out 3
    have hfz28_4 := blk_frozen BK245.out 4
    have hfz28_5 := blk_frozen BK245.out 5
    go_wp2
    go_ret
    exact ⟨by first | rfl | (simp [errW_none, errW_some] <;> rfl) | (simp [*, errW_none, errW_some] <;> rfl), by repeat (first | (with_reducible first | exact HB.out | apply below_alloc | apply pw_below_drewN | apply below_drew1 | refine below_set ?_ GE245.out | refine below_set ?_ GE255.out) | exact HB.out)⟩
   rw [if_pos c22] at H
   have c22b0 : (t250 == a1_4) = true := beq_iff_eq.mpr c22
   have c22b1 : (t250 != a1_4) = false := bne_eq_false_iff_eq.mpr c22
   clear c22
   obtain rfl := Option.some.inj H
   have hnb23 := NB255_245.out
   have hnc23 := NB245_255.out
   have hcz24_0 : wc.cell? ⟨gb255, 0, none⟩ = some (.int .i64 t246) := (blk_cell BK255.out 0).trans rfl
   have hcz24_1 : wc.cell? ⟨gb255, 1, none⟩ = some (.int .i64 t247) := (blk_cell BK255.out 1).trans rfl
   have hcz24_2 : wc.cell? ⟨gb255, 2, none⟩ = some (.int .i64 t248) := (blk_cell BK255.out 2).trans rfl
   have hcz24_3 : wc.cell? ⟨gb255, 3, none⟩ = some (.int .i64 t249) := (blk_cell BK255.out 3).trans rfl
   have hcz24_4 : wc.cell? ⟨gb255, 4, none⟩ = some (.int .i64 t250) := (blk_cell BK255.out 4).trans rfl
   have hcz24_5 : wc.cell? ⟨gb255, 5, none⟩ = some (.slice Ao11 t251.length co11) := (blk_cell BK255.out 5).trans rfl
   have hfz24_0 := blk_frozen BK255.out 0
   have hfz24_1 := blk_frozen BK255.out 1
   have hfz24_2 := blk_frozen BK255.out 2
   have hfz24_3 := blk_frozen BK255.out 3
   have hfz24_4 := blk_frozen BK255.out 4
   have hfz24_5 := blk_frozen BK255.out 5
   have hcz25_0 : wc.cell? ⟨gb245, 0, none⟩ = some (.int .i64 a1_0) := (blk_cell BK245.out 0).trans rfl
   have hcz25_1 : wc.cell? ⟨gb245, 1, none⟩ = some (.int .i64 a1_1) := (blk_cell BK245.out 1).trans rfl
   have hcz25_2 : wc.cell? ⟨gb245, 2, none⟩ = some (.int .i64 a1_2) := (blk_cell BK245.out 2).trans rfl
   have hcz25_3 : wc.cell? ⟨gb245, 3, none⟩ = some (.int .i64 a1_3) := (blk_cell BK245.out 3).trans rfl
   have hcz25_4 : wc.cell? ⟨gb245, 4, none⟩ = some (.int .i64 a1_4) := (blk_cell BK245.out 4).trans rfl
   have hcz25_5 : wc.cell? ⟨gb245, 5, none⟩ = some (.slice A1_5 l1_5.length c1_5) := (blk_cell BK245.out 5).trans rfl
   have hfz25_0 := blk_frozen BK245.out 0
   have hfz25_1 := blk_frozen BK245.out 1
   have hfz25_2 := blk_frozen BK245.out 2
   have hfz25_3 := blk_frozen BK245.out 3
   have hfz25_4 := blk_frozen BK245.out 4
   have hfz25_5 := blk_frozen BK245.out 5
   go_wp2
   go_ret
   exact ⟨by first | rfl | (simp [errW_none, errW_some] <;> rfl) | (simp [*, errW_none, errW_some] <;> rfl), by repeat (first | (with_reducible first | exact HB.out | apply below_alloc | apply pw_below_drewN | apply below_drew1 | refine below_set ?_ GE245.out | refine below_set ?_ GE255.out) | exact HB.out)⟩
end Go.Proofs.Ytnpkndbhchmedaa.Pa
 