/- Plain functions, and the walks that show that the Go functions come to them: written by this session's program wip/myprint.py, which runs the kit's print over the translation. No conditions beside those that each contract states. -/
import Derived.Test.YtjhdjkanepdgiaaPka
namespace Go.Proofs.Ytjhdjkanepdgiaa.Pk
open Go.Proofs.Ytjhdjkanepdgiaa.Pa Go.Proofs.Ytjhdjkanepdgiaa.Ext
open Go.RowKit Go.Proofs.YtjhdjkanepdgiaaW.PrintWords Go.Proofs.YtjhdjkanepdgiaaW.PrintLast Go.Proofs.YtjhdjkanepdgiaaW.PrintMore
attribute [local go_sem] max2_int min2_int max_two min_two max_three min_three max_four min_four   -- for this text's walks alone
set_option linter.unusedVariables false
set_option linter.unusedSimpArgs false

set_option maxHeartbeats 8000000 in
set_option maxRecDepth 100000 in
theorem lawAll.calls (k : Nat) (a0_0 : Int) (a0_1 : Int) (A0_2 : Option Addr) (c0_2 : Nat) (l0_2 : List (S33)) (A1 : Option Addr) (c1 : Nat) (l1 : List (S43)) (r : Bool) (w : World) (hr0_2 : Kd.C k33 w A0_2 l0_2.length l0_2) (hc0_2 : l0_2.length ≤ c0_2) (hr1 : Kd.C k43 w A1 l1.length l1) (hc1 : l1.length ≤ c1) (h : lawAll.f k a0_0 a0_1 l0_2 l1 = some r) :
 Calls Try.prog 4 #[.agg #[.int .i64 a0_0, .int .i64 a0_1, .slice A0_2 l0_2.length c0_2], .slice A1 l1.length c1] w fun e w' => e = .returned (.bool r) ∧ Below w.heap.size w w' := by
 have hu25 := Try.underlying25
 have hu41 := Try.underlying41
 have hu33 := Try.underlying33
 have HR0_2 := Aside0.mk hr0_2
 have HC0_2 := Aside0.mk hc0_2
 clear hr0_2 hc0_2
 have HR1 := Aside0.mk hr1
 have HC1 := Aside0.mk hc1
 clear hr1 hc1
 have HB := Aside0.mk (Below.refl w.heap.size w)
 have H : ((quartermasterlaw18_awake.f k).bind fun t132 => (if t132 = true then (if (l0_2.length : Int) > 20 then (lawAll.j0 k l1 t132 true a0_0 a0_1 l0_2) else (lawAll.j0 k l1 t132 (decide ((l1.length : Int) > 40)) a0_0 a0_1 l0_2)) else (lawAll.j0 k l1 t132 true a0_0 a0_1 l0_2))) = some r := h
 clear h
 replace H := Option.bind_eq_some_iff.mp H
 obtain ⟨t132, A30, H⟩ := H
 replace H : (if t132 = true then (if (l0_2.length : Int) > 20 then (lawAll.j0 k l1 t132 true a0_0 a0_1 l0_2) else (lawAll.j0 k l1 t132 (decide ((l1.length : Int) > 40)) a0_0 a0_1 l0_2)) else (lawAll.j0 k l1 t132 true a0_0 a0_1 l0_2)) = some r := H
 have A3 := Aside0.mk A30
 clear A30
 have HC4 := Aside0.mk H
 clear H
 go_enter Try.func4, Try.ntmps4
 go_upto_region 2 with (first | ((with_reducible refine gate_dst (N := 2) rfl ?_); (try (refine gate_guard (by rfl) ?_; dsimp only)); refine box_event ?hg (N := 2) ?hd (cs := #[.int .i64 a0_0, .int .i64 a0_1, .slice A0_2 l0_2.length c0_2]) (t := 25) ?hr ?_; (case hd => rfl); (case hg => rfl); (case hr => first | (go_simp; done) | (go_simp; rfl)); intro gb131 hg w5 hbox hb; have n0_ := Aside0.mk (below_step (by repeat (first | (with_reducible first | exact HB.out | apply below_alloc | apply pw_below_drewN | apply below_drew1) | exact HB.out)) hb); have n1_ := Aside0.mk (hbox); have n2_ := Aside0.mk ((by rw [hg]; exact (below_size (by repeat (first | (with_reducible first | exact HB.out | apply below_alloc | apply pw_below_drewN | apply below_drew1) | exact HB.out))) : w.heap.size ≤ gb131)); have n3_ := Aside0.mk ((by rw [hg]; exact (below_size (by repeat (first | (with_reducible first | exact HB.out | apply below_alloc | apply pw_below_drewN | apply below_drew1) | exact HB.out))) : w.heap.size ≤ gb131)); clear HB; have HB := n0_; have BK131 := n1_; have GW131 := n2_; have GE131 := n3_; clear n0_ n1_ n2_ n3_; clear hb hbox hg) | ((with_reducible refine gate_callee (f := 8) rfl ?_); refine goesL_ (some 19) rfl rfl Try.func8 (by kernel_rfl) rfl #[] rfl (by (try simp only [List.map_toArray, List.map_cons, List.map_nil]); first | done | rfl | (simp only [List.length_drop, List.length_take]; rfl)) ?_; (with_reducible refine (quartermasterlaw18_awake.calls k  t132 _ A3.out).mono ?_); rintro e w6 ⟨rfl, hb⟩; refine ⟨_, rfl, ?_⟩; have n0_ := Aside0.mk (blk_below (g := gb131) (o := .cells #[.int .i64 a0_0, .int .i64 a0_1, .slice A0_2 l0_2.length c0_2] 25 (0, 0)) (by (with_reducible repeat (first | apply blk_drewN | apply blk_drew | apply blk_alloc)); exact BK131.out) hb); have n1_ := Aside0.mk (below_step (by repeat (first | (with_reducible first | exact HB.out | apply below_alloc | apply pw_below_drewN | apply below_drew1 | refine below_set ?_ GE131.out) | exact HB.out)) hb); clear BK131; clear HB; have BK131 := n0_; have HB := n1_; clear n0_ n1_; (try clear hb); (try clear hb2); (try clear hk); (try clear hi)))
 (try simp only [Act.put, sA, sB, sC])
 go_cut [32] (fun v32 wc => ∃ (kq : Nat) (x32_3 : Bool), v32 = .bool x32_3 ∧ Aside0 (lawAll.j0 kq l1 t132 x32_3 a0_0 a0_1 l0_2 = some r) ∧ Aside0 (kq ≤ k) ∧ Aside0 (wc.heap[gb131]? = some (.cells #[.int .i64 a0_0, .int .i64 a0_1, (.slice A0_2 l0_2.length c0_2)] 25 (0, 0))) ∧ Aside0 (Below w.heap.size w wc))
 case first =>
  have H := HC4.out
  clear HC4
  by_cases c7 : t132 = true
  rotate_left
  ·replace c7 := Bool.eq_false_iff.mpr c7
   subst c7
   have H1 : (lawAll.j0 k l1 false true a0_0 a0_1 l0_2) = some r := by rw [if_neg (show ¬ (false = true) by decide)] at H; exact H
   clear H
   have H := H1
   clear H1
   have H' := Aside0.mk H
   clear H
   go_wp2
   go_meet
   case rel => exact ⟨_, (true), (by first | rfl | (simp; done) | (simp [*]; done)), H', ⟨by first | omega | exact Nat.le_refl _⟩, ⟨by (with_reducible repeat (first | apply blk_drewN | apply blk_drew | apply blk_alloc)); exact BK131.out⟩, ⟨by repeat (first | (with_reducible first | exact HB.out | apply below_alloc | apply pw_below_drewN | apply below_drew1 | refine below_set ?_ GE131.out) | exact HB.out)⟩⟩
  subst c7
  have H1 : (if (l0_2.length : Int) > 20 then (lawAll.j0 k l1 true true a0_0 a0_1 l0_2) else (lawAll.j0 k l1 true (decide ((l1.length : Int) > 40)) a0_0 a0_1 l0_2)) = some r := by rw [if_pos rfl] at H; exact H
  clear H
  have H := H1
  clear H1
  by_cases c8 : (l0_2.length : Int) > 20
  ·rw [if_pos c8] at H
   have c8b0 : decide (20 < (l0_2.length : Int)) = true := decide_eq_true c8
   have c8b1 : decide (20 < l0_2.length) = true := decide_eq_true (by omega)
   clear c8
   (first | rw [c8b0] | (simp only [i64_w, i32_w]; rw [c8b0]) | skip)
   have H' := Aside0.mk H
   clear H
   have hcz9_0 : w6.cell? ⟨gb131, 0, none⟩ = some (.int .i64 a0_0) := (blk_cell BK131.out 0).trans rfl
   have hcz9_1 : w6.cell? ⟨gb131, 1, none⟩ = some (.int .i64 a0_1) := (blk_cell BK131.out 1).trans rfl
   have hcz9_2 : w6.cell? ⟨gb131, 2, none⟩ = some (.slice A0_2 l0_2.length c0_2) := (blk_cell BK131.out 2).trans rfl
   have hfz9_0 := blk_frozen BK131.out 0
   have hfz9_1 := blk_frozen BK131.out 1
   have hfz9_2 := blk_frozen BK131.out 2
   go_wp2
   go_meet
   case rel => exact ⟨_, (true), (by first | rfl | (simp; done) | (simp [*]; done)), H', ⟨by first | omega | exact Nat.le_refl _⟩, ⟨by (with_reducible repeat (first | apply blk_drewN | apply blk_drew | apply blk_alloc)); exact BK131.out⟩, ⟨by repeat (first | (with_reducible first | exact HB.out | apply below_alloc | apply pw_below_drewN | apply below_drew1 | refine below_set ?_ GE131.out) | exact HB.out)⟩⟩
  rw [if_neg c8] at H
  have c8b0 : decide (20 < (l0_2.length : Int)) = false := decide_eq_false c8
  have c8b1 : decide (20 < l0_2.length) = false := decide_eq_false (by omega)
  clear c8
  (first | rw [c8b0] | (simp only [i64_w, i32_w]; rw [c8b0]) | skip)
  have H' := Aside0.mk H
  clear H
  have hcz10_0 : w6.cell? ⟨gb131, 0, none⟩ = some (.int .i64 a0_0) := (blk_cell BK131.out 0).trans rfl
  have hcz10_1 : w6.cell? ⟨gb131, 1, none⟩ = some (.int .i64 a0_1) := (blk_cell BK131.out 1).trans rfl
  have hcz10_2 : w6.cell? ⟨gb131, 2, none⟩ = some (.slice A0_2 l0_2.length c0_2) := (blk_cell BK131.out 2).trans rfl
  have hfz10_0 := blk_frozen BK131.out 0
  have hfz10_1 := blk_frozen BK131.out 1
  have hfz10_2 := blk_frozen BK131.out 2
  go_wp2
  go_meet
  case rel => exact ⟨_, (decide ((l1.length : Int) > 40)), (by first | rfl | (simp; done) | (simp [*]; done)), H', ⟨by first | omega | exact Nat.le_refl _⟩, ⟨by (with_reducible repeat (first | apply blk_drewN | apply blk_drew | apply blk_alloc)); exact BK131.out⟩, ⟨by repeat (first | (with_reducible first | exact HB.out | apply below_alloc | apply pw_below_drewN | apply below_drew1 | refine below_set ?_ GE131.out) | exact HB.out)⟩⟩
 case rest =>
  clear HC4
  try clear c1
  try clear p2
  try clear c4
  try clear c7
  try clear c8
  try clear c8b0
  try clear c8b1
  try clear hcz10_0
  try clear hcz10_1
  try clear hcz10_2
  try clear hcz9_0
  try clear hcz9_1
  try clear hcz9_2
  try clear hfz10_0
  try clear hfz10_1
  try clear hfz10_2
  try clear hfz9_0
  try clear hfz9_1
  try clear hfz9_2
  obtain ⟨kq, x32_3, rfl, HA, HJ3, BK131, HB⟩ := hcut
  cases kq with
  | zero => exact absurd HA.out (by simp [lawAll.j0])
  | succ kj3 =>
   have H := HA.out
   clear HA
   simp only [lawAll.j0] at H
   by_cases c11 : x32_3 = true
   ·subst c11
    have H1 : (some t132) = some r := by rw [if_pos rfl] at H; exact H
    clear H
    have H := H1
    clear H1
    obtain rfl := Option.some.inj H
    go_wp2
    go_ret
    exact ⟨by first | rfl | (simp [errW_none, errW_some] <;> rfl) | (simp [*, errW_none, errW_some] <;> rfl), by repeat (first | (with_reducible first | exact HB.out | apply below_alloc | apply pw_below_drewN | apply below_drew1 | refine below_set ?_ GE131.out) | exact HB.out)⟩
   replace c11 := Bool.eq_false_iff.mpr c11
   subst c11
   have H1 : ((Pb.book_Open.f kj3 ([] : List (S25)) a0_0 a0_1 l0_2).bind fun bt133 => (if bt133.2 = 0 then (lawAll.l0 kj3 l1 bt133.1 0 a0_0 a0_1 l0_2 0 0 0 0) else (if bt133.2 = 1 then (some ((bt133.1.length : Int) == 0)) else (none)))) = some r := by rw [if_neg (show ¬ (false = true) by decide)] at H; exact H
   clear H
   have H := H1
   clear H1
   replace H := Option.bind_eq_some_iff.mp H
   obtain ⟨⟨t133, t136⟩, A120, H⟩ := H
   replace H : (if t136 = 0 then (lawAll.l0 kj3 l1 t133 0 a0_0 a0_1 l0_2 0 0 0 0) else (if t136 = 1 then (some ((t133.length : Int) == 0)) else (none))) = some r := H
   have A12 := Aside0.mk A120
   clear A120
   by_cases c13 : t136 = 0
   rotate_left
   ·rw [if_neg c13] at H
    have c13b0 : (t136 == 0) = false := beq_eq_false_iff_ne.mpr c13
    have c13b1 : (t136 != 0) = true := bne_iff_ne.mpr c13
    by_cases c304 : t136 = 1
    rotate_left
    ·rw [if_neg c304] at H; exact absurd H (by simp)
    rw [if_pos c304] at H
    have c304b0 : (t136 == 1) = true := beq_iff_eq.mpr c304
    have c304b1 : (t136 != 1) = false := bne_eq_false_iff_eq.mpr c304
    clear c304
    obtain rfl := Option.some.inj H
    have hcz305_0 : wc.cell? ⟨gb131, 0, none⟩ = some (.int .i64 a0_0) := (blk_cell BK131.out 0).trans rfl
    have hcz305_1 : wc.cell? ⟨gb131, 1, none⟩ = some (.int .i64 a0_1) := (blk_cell BK131.out 1).trans rfl
    have hcz305_2 : wc.cell? ⟨gb131, 2, none⟩ = some (.slice A0_2 l0_2.length c0_2) := (blk_cell BK131.out 2).trans rfl
    have hfz305_0 := blk_frozen BK131.out 0
    have hfz305_1 := blk_frozen BK131.out 1
    have hfz305_2 := blk_frozen BK131.out 2
    go_wp2_with (first | ((with_reducible refine gate_callee (f := 11) rfl ?_); refine goesL_ (some 36) rfl rfl Try.func11 (by kernel_rfl) rfl #[.slice none 0 0, .agg #[.int .i64 a0_0, .int .i64 a0_1, .slice A0_2 l0_2.length c0_2]] rfl (by (try simp only [List.map_toArray, List.map_cons, List.map_nil]); first | done | rfl | (simp only [List.length_drop, List.length_take]; rfl)) ?_; (refine (Pb.book_Open.calls kj3 _ _ ([] : List (S25)) a0_0 a0_1 _ _ l0_2 t133 t136 _ ?side1 ?side2 ?side3 ?side4 A12.out).mono ?_); (case side1 => exact Kd.C_nil _ _); (case side2 => exact Nat.le_refl _); (case side3 => repeat (first | exact (Kd.C_below HR0_2.out HB.out) | (with_reducible refine Kd.C_alloc ?_ _) | (with_reducible refine Kd.C_drewN ?_ _) | (with_reducible refine Kd.C_drew ?_))); (case side4 => exact HC0_2.out); rintro e w306 ⟨v134, rfl, ho0, hb⟩; refine ⟨_, rfl, ?_⟩; have n0_ := Aside0.mk (Kd.S_lower (Kd.S_newB ho0 (g := gb131) (o := .cells #[.int .i64 a0_0, .int .i64 a0_1, .slice A0_2 l0_2.length c0_2] 25 (0, 0)) (by (with_reducible repeat (first | apply blk_drewN | apply blk_drew | apply blk_alloc)); exact BK131.out)) (below_size (by repeat (first | (with_reducible first | exact HB.out | apply below_alloc | apply pw_below_drewN | apply below_drew1 | refine below_set ?_ GE131.out) | exact HB.out)))); have n1_ := Aside0.mk (blk_below (g := gb131) (o := .cells #[.int .i64 a0_0, .int .i64 a0_1, .slice A0_2 l0_2.length c0_2] 25 (0, 0)) (by (with_reducible repeat (first | apply blk_drewN | apply blk_drew | apply blk_alloc)); exact BK131.out) hb); have n2_ := Aside0.mk (below_step (by repeat (first | (with_reducible first | exact HB.out | apply below_alloc | apply pw_below_drewN | apply below_drew1 | refine below_set ?_ GE131.out) | exact HB.out)) hb); clear BK131; clear HB; have HO135 := n0_; have BK131 := n1_; have HB := n2_; clear n0_ n1_ n2_; (try clear hb); (try clear hb2); (try clear hk); (try clear hi); (try clear ho0); obtain ⟨Ao307, co307, eo307⟩ := Kd.S_slice HO135.out; subst eo307))
    go_ret
    exact ⟨by first | rfl | (simp [errW_none, errW_some] <;> rfl) | (simp [*, errW_none, errW_some] <;> rfl), by repeat (first | (with_reducible first | exact HB.out | apply below_alloc | apply pw_below_drewN | apply below_drew1 | refine below_set ?_ GE131.out) | exact HB.out)⟩
   rw [if_pos c13] at H
   have c13b0 : (t136 == 0) = true := beq_iff_eq.mpr c13
   have c13b1 : (t136 != 0) = false := bne_eq_false_iff_eq.mpr c13
   clear c13
   have H' := Aside0.mk H
   clear H
   have hcz14_0 : wc.cell? ⟨gb131, 0, none⟩ = some (.int .i64 a0_0) := (blk_cell BK131.out 0).trans rfl
   have hcz14_1 : wc.cell? ⟨gb131, 1, none⟩ = some (.int .i64 a0_1) := (blk_cell BK131.out 1).trans rfl
   have hcz14_2 : wc.cell? ⟨gb131, 2, none⟩ = some (.slice A0_2 l0_2.length c0_2) := (blk_cell BK131.out 2).trans rfl
   have hfz14_0 := blk_frozen BK131.out 0
   have hfz14_1 := blk_frozen BK131.out 1
   have hfz14_2 := blk_frozen BK131.out 2
   go_wp2_with (first | ((with_reducible refine gate_callee (f := 11) rfl ?_); refine goesL_ (some 36) rfl rfl Try.func11 (by kernel_rfl) rfl #[.slice none 0 0, .agg #[.int .i64 a0_0, .int .i64 a0_1, .slice A0_2 l0_2.length c0_2]] rfl (by (try simp only [List.map_toArray, List.map_cons, List.map_nil]); first | done | rfl | (simp only [List.length_drop, List.length_take]; rfl)) ?_; (refine (Pb.book_Open.calls kj3 _ _ ([] : List (S25)) a0_0 a0_1 _ _ l0_2 t133 t136 _ ?side1 ?side2 ?side3 ?side4 A12.out).mono ?_); (case side1 => exact Kd.C_nil _ _); (case side2 => exact Nat.le_refl _); (case side3 => repeat (first | exact (Kd.C_below HR0_2.out HB.out) | (with_reducible refine Kd.C_alloc ?_ _) | (with_reducible refine Kd.C_drewN ?_ _) | (with_reducible refine Kd.C_drew ?_))); (case side4 => exact HC0_2.out); rintro e w15 ⟨v134, rfl, ho0, hb⟩; refine ⟨_, rfl, ?_⟩; have n0_ := Aside0.mk (Kd.S_lower (Kd.S_newB ho0 (g := gb131) (o := .cells #[.int .i64 a0_0, .int .i64 a0_1, .slice A0_2 l0_2.length c0_2] 25 (0, 0)) (by (with_reducible repeat (first | apply blk_drewN | apply blk_drew | apply blk_alloc)); exact BK131.out)) (below_size (by repeat (first | (with_reducible first | exact HB.out | apply below_alloc | apply pw_below_drewN | apply below_drew1 | refine below_set ?_ GE131.out) | exact HB.out)))); have n1_ := Aside0.mk (blk_below (g := gb131) (o := .cells #[.int .i64 a0_0, .int .i64 a0_1, .slice A0_2 l0_2.length c0_2] 25 (0, 0)) (by (with_reducible repeat (first | apply blk_drewN | apply blk_drew | apply blk_alloc)); exact BK131.out) hb); have n2_ := Aside0.mk (below_step (by repeat (first | (with_reducible first | exact HB.out | apply below_alloc | apply pw_below_drewN | apply below_drew1 | refine below_set ?_ GE131.out) | exact HB.out)) hb); clear BK131; clear HB; have HO135 := n0_; have BK131 := n1_; have HB := n2_; clear n0_ n1_ n2_; (try clear hb); (try clear hb2); (try clear hk); (try clear hi); (try clear ho0)) | ((with_reducible refine gate_dst (N := 8) rfl ?_); (try (refine gate_guard (by rfl) ?_; dsimp only)); refine box_event ?hg (N := 8) ?hd (cs := #[.int .i64 0, .int .i64 0, .int .i64 0, .int .i64 0]) (t := 41) ?hr ?_; (case hd => rfl); (case hg => rfl); (case hr => first | (go_simp; done) | (go_simp; rfl)); intro gb137 hg w16 hbox hb; have n0_ := Aside0.mk (Kd.S_below (by (with_reducible repeat (first | apply Kd.S_alloc | apply Kd.S_drewN | apply Kd.S_drew)); exact HO135.out) hb); have n1_ := Aside0.mk (blk_below (g := gb131) (o := .cells #[.int .i64 a0_0, .int .i64 a0_1, .slice A0_2 l0_2.length c0_2] 25 (0, 0)) (by (with_reducible repeat (first | apply blk_drewN | apply blk_drew | apply blk_alloc)); exact BK131.out) hb); have n2_ := Aside0.mk (below_step (by repeat (first | (with_reducible first | exact HB.out | apply below_alloc | apply pw_below_drewN | apply below_drew1 | refine below_set ?_ GE131.out) | exact HB.out)) hb); have n3_ := Aside0.mk (hbox); have n4_ := Aside0.mk ((by rw [hg]; exact (below_size (by repeat (first | (with_reducible first | exact HB.out | apply below_alloc | apply pw_below_drewN | apply below_drew1 | refine below_set ?_ GE131.out) | exact HB.out))) : w.heap.size ≤ gb137)); have n5_ := Aside0.mk ((by rw [hg]; exact (below_size (by repeat (first | (with_reducible first | exact HB.out | apply below_alloc | apply pw_below_drewN | apply below_drew1 | refine below_set ?_ GE131.out) | exact HB.out))) : w.heap.size ≤ gb137)); have n6_ := Aside0.mk ((by rw [hg]; exact Nat.ne_of_lt (blk_lt (g := gb131) (o := .cells #[.int .i64 a0_0, .int .i64 a0_1, .slice A0_2 l0_2.length c0_2] 25 (0, 0)) (by (with_reducible repeat (first | apply blk_drewN | apply blk_drew | apply blk_alloc)); exact BK131.out)) : gb131 ≠ gb137)); have n7_ := Aside0.mk ((by rw [hg]; exact Nat.ne_of_gt (blk_lt (g := gb131) (o := .cells #[.int .i64 a0_0, .int .i64 a0_1, .slice A0_2 l0_2.length c0_2] 25 (0, 0)) (by (with_reducible repeat (first | apply blk_drewN | apply blk_drew | apply blk_alloc)); exact BK131.out)) : gb137 ≠ gb131)); clear HO135; clear BK131; clear HB; have HO135 := n0_; have BK131 := n1_; have HB := n2_; have BK137 := n3_; have GW137 := n4_; have GE137 := n5_; have NB131_137 := n6_; have NB137_131 := n7_; clear n0_ n1_ n2_ n3_ n4_ n5_ n6_ n7_; clear hb hbox hg))
   go_loopg [6, 9] kj3 (fun kq v6 v9 w' => ∃ (x6_2 : List (S25)) (x9_2 : Int) (x138000_2 : Int) (x138001_2 : Int) (x138002_2 : Int) (x138003_2 : Int), v9 = .int .i64 x9_2 ∧ Aside0 (lawAll.l0 kq l1 x6_2 x9_2 a0_0 a0_1 l0_2 x138000_2 x138001_2 x138002_2 x138003_2 = some r) ∧ Aside0 (kq ≤ kj3) ∧ Aside0 (Kd.S k25 25 w' w.heap.size (fun k_ => k_ ≠ gb131) v6 x6_2) ∧ Aside0 (w'.heap[gb131]? = some (.cells #[.int .i64 a0_0, .int .i64 a0_1, (.slice A0_2 l0_2.length c0_2)] 25 (0, 0))) ∧ Aside0 (w'.heap[gb137]? = some (.cells #[.int .i64 x138000_2, .int .i64 x138001_2, .int .i64 x138002_2, .int .i64 x138003_2] 41 (0, 0))) ∧ Aside0 (Below w.heap.size w w'))
   case atStart => exact ⟨(t133), (0), (0), (0), (0), (0), (by first | rfl | (simp; done) | (simp [*]; done)), H', ⟨Nat.le_refl _⟩, ⟨by (with_reducible repeat (first | apply Kd.S_alloc | apply Kd.S_drewN | apply Kd.S_drew)); exact Kd.S_mono HO135.out (fun _ hk => hk.2)⟩, ⟨by (with_reducible repeat (first | apply blk_drewN | apply blk_drew | apply blk_alloc)); exact BK131.out⟩, ⟨by (with_reducible repeat (first | apply blk_drewN | apply blk_drew | apply blk_alloc)); exact BK137.out⟩, ⟨by repeat (first | (with_reducible first | exact HB.out | apply below_alloc | apply pw_below_drewN | apply below_drew1 | refine below_set ?_ GE131.out | refine below_set ?_ GE137.out) | exact HB.out)⟩⟩
   case round =>
    clear H'
    try clear c1
    try clear p2
    try clear c4
    try clear c7
    try clear c8
    try clear c8b0
    try clear c8b1
    try clear c11
    try clear c13
    try clear c13b0
    try clear c13b1
    try clear hcz10_0
    try clear hcz10_1
    try clear hcz10_2
    try clear hcz14_0
    try clear hcz14_1
    try clear hcz14_2
    try clear hcz9_0
    try clear hcz9_1
    try clear hcz9_2
    try clear hfz10_0
    try clear hfz10_1
    try clear hfz10_2
    try clear hfz14_0
    try clear hfz14_1
    try clear hfz14_2
    try clear hfz9_0
    try clear hfz9_1
    try clear hfz9_2
    try clear p2
    obtain ⟨x6_2, x9_2, x138000_2, x138001_2, x138002_2, x138003_2, rfl, HA, HK2, HO_6, BK131, BK137, HB⟩ := hrel
    cases gk with
    | zero => exact absurd HA.out (by simp [lawAll.l0])
    | succ k2 =>
     have H := HA.out
     clear HA
     simp only [lawAll.l0] at H
     by_cases c17 : x9_2 < (l1.length : Int)
     rotate_left
     ·as_aux_lemma =>
       rw [if_neg c17] at H
       have c17b0 : decide (x9_2 < (l1.length : Int)) = false := decide_eq_false c17
       clear c17
       replace H := Option.bind_eq_some_iff.mp H
       obtain ⟨⟨t156, t157, t158⟩, A1380, H⟩ := H
       replace H : (lawAll.l1 k2 x6_2 t157 t158 ([] : List (S33)) 0 a0_0 a0_1 l0_2 x138000_2 x138001_2 x138002_2 x138003_2) = some r := H
       have A138 := Aside0.mk A1380
       clear A1380
       have H' := Aside0.mk H
       clear H
       have hnb139 := NB131_137.out
       have hnc139 := NB137_131.out
       have hcz140_0 : wr.cell? ⟨gb131, 0, none⟩ = some (.int .i64 a0_0) := (blk_cell BK131.out 0).trans rfl
       have hcz140_1 : wr.cell? ⟨gb131, 1, none⟩ = some (.int .i64 a0_1) := (blk_cell BK131.out 1).trans rfl
       have hcz140_2 : wr.cell? ⟨gb131, 2, none⟩ = some (.slice A0_2 l0_2.length c0_2) := (blk_cell BK131.out 2).trans rfl
       have hfz140_0 := blk_frozen BK131.out 0
       have hfz140_1 := blk_frozen BK131.out 1
       have hfz140_2 := blk_frozen BK131.out 2
       obtain ⟨Ao141, co141, eo141⟩ := Kd.S_slice HO_6.out
       subst eo141
       go_wp2_with (first | ((with_reducible refine gate_callee (f := 13) rfl ?_); refine goesL_ (some 145) rfl rfl Try.func13 (by kernel_rfl) rfl #[.slice Ao141 x6_2.length co141, .int .i64 a0_0] rfl (by (try simp only [List.map_toArray, List.map_cons, List.map_nil]); first | done | rfl | (simp only [List.length_drop, List.length_take]; rfl)) ?_; (with_reducible refine (book_Close.calls _ _ x6_2 a0_0 t156 t157 t158 _ ?side1 ?side2 A138.out).mono ?_); (case side1 => repeat (first | exact (Kd.S_reads' HO_6.out).2.2 | (with_reducible refine Kd.C_alloc ?_ _) | (with_reducible refine Kd.C_drewN ?_ _) | (with_reducible refine Kd.C_drew ?_))); (case side2 => exact (Kd.S_reads' HO_6.out).2.1); rintro e w142 ⟨v159, v161, rfl, ho0, ho1, hb⟩; refine ⟨_, rfl, ?_⟩; have n0_ := Aside0.mk (Kd.S_mono (Kd.S_told (Kd.S_told (Kd.S_old (by (with_reducible repeat (first | apply Kd.S_alloc | apply Kd.S_drewN | apply Kd.S_drew)); exact HO_6.out) hb) (Kd.S_base ho0)) (Kd.R_base ho1)) (fun _ h_ => h_.1)); have n1_ := Aside0.mk (Kd.S_lower (Kd.S_newB (Kd.S_new' ho0 (Kd.S_lt (by (with_reducible repeat (first | apply Kd.S_alloc | apply Kd.S_drewN | apply Kd.S_drew)); exact HO_6.out))) (g := gb131) (o := .cells #[.int .i64 a0_0, .int .i64 a0_1, .slice A0_2 l0_2.length c0_2] 25 (0, 0)) (by (with_reducible repeat (first | apply blk_drewN | apply blk_drew | apply blk_alloc)); exact BK131.out)) (below_size (by repeat (first | (with_reducible first | exact HB.out | apply below_alloc | apply pw_below_drewN | apply below_drew1 | refine below_set ?_ GE131.out | refine below_set ?_ GE137.out) | exact HB.out)))); have n2_ := Aside0.mk (Kd.R_lower ho1 (below_size (by repeat (first | (with_reducible first | exact HB.out | apply below_alloc | apply pw_below_drewN | apply below_drew1 | refine below_set ?_ GE131.out | refine below_set ?_ GE137.out) | exact HB.out)))); have n3_ := Aside0.mk (blk_below (g := gb131) (o := .cells #[.int .i64 a0_0, .int .i64 a0_1, .slice A0_2 l0_2.length c0_2] 25 (0, 0)) (by (with_reducible repeat (first | apply blk_drewN | apply blk_drew | apply blk_alloc)); exact BK131.out) hb); have n4_ := Aside0.mk (blk_below (g := gb137) (o := .cells #[.int .i64 x138000_2, .int .i64 x138001_2, .int .i64 x138002_2, .int .i64 x138003_2] 41 (0, 0)) (by (with_reducible repeat (first | apply blk_drewN | apply blk_drew | apply blk_alloc)); exact BK137.out) hb); have n5_ := Aside0.mk (below_step (by repeat (first | (with_reducible first | exact HB.out | apply below_alloc | apply pw_below_drewN | apply below_drew1 | refine below_set ?_ GE131.out | refine below_set ?_ GE137.out) | exact HB.out)) hb); clear HO_6; clear BK131; clear BK137; clear HB; have HO_6 := n0_; have HO160 := n1_; have HO162 := n2_; have BK131 := n3_; have BK137 := n4_; have HB := n5_; clear n0_ n1_ n2_ n3_ n4_ n5_; (try clear hb); (try clear hb2); (try clear hk); (try clear hi); (try clear ho0); (try clear ho1)))
       go_loopg [16, 17] k2 (fun kq v16 v17 w' => ∃ (x16_3 : List (S33)) (x17_3 : Int), v17 = .int .i64 x17_3 ∧ Aside0 (lawAll.l1 kq x6_2 t157 t158 x16_3 x17_3 a0_0 a0_1 l0_2 x138000_2 x138001_2 x138002_2 x138003_2 = some r) ∧ Aside0 (kq ≤ k2) ∧ Aside0 (Kd.S k25 25 w' w.heap.size (fun k_ => some k_ ≠ (v161 : Value).ownBlock ∧ some k_ ≠ (v16 : Value).ownBlock ∧ k_ ≠ gb131) (.slice Ao141 x6_2.length co141) x6_2) ∧ Aside0 (Kd.R k33 33 w' w.heap.size (fun k_ => some k_ ≠ (v16 : Value).ownBlock) v161 t157) ∧ Aside0 (Kd.R k33 33 w' w.heap.size (fun k_ => some k_ ≠ (v161 : Value).ownBlock) v16 x16_3) ∧ Aside0 (w'.heap[gb131]? = some (.cells #[.int .i64 a0_0, .int .i64 a0_1, (.slice A0_2 l0_2.length c0_2)] 25 (0, 0))) ∧ Aside0 (w'.heap[gb137]? = some (.cells #[.int .i64 x138000_2, .int .i64 x138001_2, .int .i64 x138002_2, .int .i64 x138003_2] 41 (0, 0))) ∧ Aside0 (Below w.heap.size w w'))
       case atStart => exact ⟨(([] : List (S33))), (0), (by first | rfl | (simp; done) | (simp [*]; done)), H', ⟨Nat.le_refl _⟩, ⟨by (with_reducible repeat (first | apply Kd.S_alloc | apply Kd.S_drewN | apply Kd.S_drew)); exact Kd.S_mono HO_6.out (fun _ hk => ⟨hk.2, ⟨(by simp [Value.ownBlock]), hk.1.1⟩⟩)⟩, ⟨by (with_reducible repeat (first | apply Kd.R_alloc | apply Kd.R_drewN | apply Kd.R_drew)); exact Kd.R_mono HO162.out (fun _ hk => (by simp [Value.ownBlock]))⟩, ⟨by first | exact Kd.R_nil _ _ _ _ _ | exact Kd.N_nil _ _ _ _ _ | exact Kd.V_nil _ _ _ _ _ | exact Kd.Q_nil _ _ _ _ _ | exact Kd.S_nil _ _ _ _ _⟩, ⟨by (with_reducible repeat (first | apply blk_drewN | apply blk_drew | apply blk_alloc)); exact BK131.out⟩, ⟨by (with_reducible repeat (first | apply blk_drewN | apply blk_drew | apply blk_alloc)); exact BK137.out⟩, ⟨by repeat (first | (with_reducible first | exact HB.out | apply below_alloc | apply pw_below_drewN | apply below_drew1 | refine below_set ?_ GE131.out | refine below_set ?_ GE137.out) | exact HB.out)⟩⟩
       case round =>
        clear H'
        try clear c1
        try clear p1
        try clear q1
        try clear hx1
        try clear c2
        try clear p2
        try clear c5
        try clear p6
        try clear c12
        try clear c13
        try clear p13
        try clear q13
        try clear hx13
        try clear c17
        try clear c17b0
        try clear c18
        try clear c20
        try clear c20b0
        try clear c20b1
        try clear c54
        try clear c55
        try clear p64
        try clear p138
        try clear q138
        try clear hx138
        try clear c139
        try clear p139
        try clear q139
        try clear hx139
        try clear hcz140_0
        try clear hcz140_1
        try clear hcz140_2
        try clear hfz140_0
        try clear hfz140_1
        try clear hfz140_2
        try clear hx138_0
        try clear hx138_1
        try clear hx139_0
        try clear hx139_1
        try clear p138
        try clear p139
        try clear q138
        try clear q139
        obtain ⟨x16_3, x17_3, rfl, HA, HK3, HO_6, HO_14, HO_16, BK131, BK137, HB⟩ := hrel
        cases gk with
        | zero => exact absurd HA.out (by simp [lawAll.l1])
        | succ k3 =>
         have H := HA.out
         clear HA
         simp only [lawAll.l1] at H
         have HC143 := Aside0.mk H
         clear H
         go_upto_region 20 with (fail)
         go_cut [157] (fun v157 wc => ∃ (kq : Nat) (x157_142 : Bool), v157 = .bool x157_142 ∧ Aside0 (lawAll.j3 kq x6_2 t157 t158 x16_3 x17_3 x157_142 a0_0 a0_1 l0_2 x138000_2 x138001_2 x138002_2 x138003_2 = some r) ∧ Aside0 (kq ≤ k3) ∧ Aside0 (Kd.S k25 25 wc w.heap.size (fun k_ => some k_ ≠ (v161 : Value).ownBlock ∧ some k_ ≠ (u16 : Value).ownBlock ∧ k_ ≠ gb131) (.slice Ao141 x6_2.length co141) x6_2) ∧ Aside0 (Kd.R k33 33 wc w.heap.size (fun k_ => some k_ ≠ (u16 : Value).ownBlock) v161 t157) ∧ Aside0 (Kd.R k33 33 wc w.heap.size (fun k_ => some k_ ≠ (v161 : Value).ownBlock) u16 x16_3) ∧ Aside0 (wc.heap[gb131]? = some (.cells #[.int .i64 a0_0, .int .i64 a0_1, (.slice A0_2 l0_2.length c0_2)] 25 (0, 0))) ∧ Aside0 (wc.heap[gb137]? = some (.cells #[.int .i64 x138000_2, .int .i64 x138001_2, .int .i64 x138002_2, .int .i64 x138003_2] 41 (0, 0))) ∧ Aside0 (Below w.heap.size w wc))
         case first =>
          have H := HC143.out
          clear HC143
          by_cases c144 : x17_3 < (l0_2.length : Int)
          rotate_left
          ·rw [if_neg c144] at H
           have c144b0 : decide (x17_3 < (l0_2.length : Int)) = false := decide_eq_false c144
           clear c144
           (first | rw [c144b0] | (simp only [i64_w, i32_w]; rw [c144b0]) | skip)
           have H' := Aside0.mk H
           clear H
           have hnb147 := NB131_137.out
           have hnc147 := NB137_131.out
           have hcz148_0 : wr.cell? ⟨gb131, 0, none⟩ = some (.int .i64 a0_0) := (blk_cell BK131.out 0).trans rfl
           have hcz148_1 : wr.cell? ⟨gb131, 1, none⟩ = some (.int .i64 a0_1) := (blk_cell BK131.out 1).trans rfl
           have hcz148_2 : wr.cell? ⟨gb131, 2, none⟩ = some (.slice A0_2 l0_2.length c0_2) := (blk_cell BK131.out 2).trans rfl
           have hfz148_0 := blk_frozen BK131.out 0
           have hfz148_1 := blk_frozen BK131.out 1
           have hfz148_2 := blk_frozen BK131.out 2
           go_wp2
           go_meet
           case rel => exact ⟨_, (false), (by first | rfl | (simp; done) | (simp [*]; done)), H', ⟨by have := HJ3.out; have := HK2.out; have := HK3.out; first | omega | exact Nat.le_refl _⟩, ⟨by (with_reducible repeat (first | apply Kd.S_alloc | apply Kd.S_drewN | apply Kd.S_drew)); exact HO_6.out⟩, ⟨by (with_reducible repeat (first | apply Kd.R_alloc | apply Kd.R_drewN | apply Kd.R_drew)); exact HO_14.out⟩, ⟨by (with_reducible repeat (first | apply Kd.R_alloc | apply Kd.R_drewN | apply Kd.R_drew)); exact HO_16.out⟩, ⟨by (with_reducible repeat (first | apply blk_drewN | apply blk_drew | apply blk_alloc)); exact BK131.out⟩, ⟨by (with_reducible repeat (first | apply blk_drewN | apply blk_drew | apply blk_alloc)); exact BK137.out⟩, ⟨by repeat (first | (with_reducible first | exact HB.out | apply below_alloc | apply pw_below_drewN | apply below_drew1 | refine below_set ?_ GE131.out | refine below_set ?_ GE137.out) | exact HB.out)⟩⟩
          rw [if_pos c144] at H
          have c144b0 : decide (x17_3 < (l0_2.length : Int)) = true := decide_eq_true c144
          clear c144
          (first | rw [c144b0] | (simp only [i64_w, i32_w]; rw [c144b0]) | skip)
          have H' := Aside0.mk H
          clear H
          have hnb145 := NB131_137.out
          have hnc145 := NB137_131.out
          have hcz146_0 : wr.cell? ⟨gb131, 0, none⟩ = some (.int .i64 a0_0) := (blk_cell BK131.out 0).trans rfl
          have hcz146_1 : wr.cell? ⟨gb131, 1, none⟩ = some (.int .i64 a0_1) := (blk_cell BK131.out 1).trans rfl
          have hcz146_2 : wr.cell? ⟨gb131, 2, none⟩ = some (.slice A0_2 l0_2.length c0_2) := (blk_cell BK131.out 2).trans rfl
          have hfz146_0 := blk_frozen BK131.out 0
          have hfz146_1 := blk_frozen BK131.out 1
          have hfz146_2 := blk_frozen BK131.out 2
          go_wp2
          go_meet
          case rel => exact ⟨_, (decide (x17_3 < 4)), (by first | rfl | (simp; done) | (simp [*]; done)), H', ⟨by have := HJ3.out; have := HK2.out; have := HK3.out; first | omega | exact Nat.le_refl _⟩, ⟨by (with_reducible repeat (first | apply Kd.S_alloc | apply Kd.S_drewN | apply Kd.S_drew)); exact HO_6.out⟩, ⟨by (with_reducible repeat (first | apply Kd.R_alloc | apply Kd.R_drewN | apply Kd.R_drew)); exact HO_14.out⟩, ⟨by (with_reducible repeat (first | apply Kd.R_alloc | apply Kd.R_drewN | apply Kd.R_drew)); exact HO_16.out⟩, ⟨by (with_reducible repeat (first | apply blk_drewN | apply blk_drew | apply blk_alloc)); exact BK131.out⟩, ⟨by (with_reducible repeat (first | apply blk_drewN | apply blk_drew | apply blk_alloc)); exact BK137.out⟩, ⟨by repeat (first | (with_reducible first | exact HB.out | apply below_alloc | apply pw_below_drewN | apply below_drew1 | refine below_set ?_ GE131.out | refine below_set ?_ GE137.out) | exact HB.out)⟩⟩
         case rest =>
          clear HC143
          try clear c1
          try clear p1
          try clear q1
          try clear hx1
          try clear c2
          try clear p2
          try clear c5
          try clear p6
          try clear c12
          try clear c13
          try clear p13
          try clear q13
          try clear hx13
          try clear c14
          try clear c17
          try clear c17b0
          try clear c18
          try clear c20
          try clear c20b0
          try clear c20b1
          try clear c54
          try clear c55
          try clear p64
          try clear p138
          try clear q138
          try clear hx138
          try clear c139
          try clear p139
          try clear q139
          try clear hx139
          try clear c144
          try clear c144b0
          try clear c145
          try clear c147
          try clear hcz140_0
          try clear hcz140_1
          try clear hcz140_2
          try clear hcz146_0
          try clear hcz146_1
          try clear hcz146_2
          try clear hcz148_0
          try clear hcz148_1
          try clear hcz148_2
          try clear hfz140_0
          try clear hfz140_1
          try clear hfz140_2
          try clear hfz146_0
          try clear hfz146_1
          try clear hfz146_2
          try clear hfz148_0
          try clear hfz148_1
          try clear hfz148_2
          try clear hx138_0
          try clear hx138_1
          try clear hx139_0
          try clear hx139_1
          try clear p1
          try clear p13
          try clear p138
          try clear p139
          try clear p2
          try clear p6
          try clear p64
          try clear q1
          try clear q13
          try clear q138
          try clear q139
          obtain ⟨kq, x157_142, rfl, HA, HJ142, HO_6, HO_14, HO_16, BK131, BK137, HB⟩ := hcut
          cases kq with
          | zero => exact absurd HA.out (by simp [lawAll.j3])
          | succ kj142 =>
           have H := HA.out
           clear HA
           simp only [lawAll.j3] at H
           by_cases c149 : x157_142 = true
           rotate_left
           ·as_aux_lemma =>
             replace c149 := Bool.eq_false_iff.mpr c149
             subst c149
             have H1 : (if (x16_3.length : Int) = 0 then (if t158 = 3 then (if (x6_2.length : Int) = 0 then (some ((t157.length : Int) == 0)) else (none)) else (none)) else (if t158 = 0 then ((Pa.quartermasterref18_Lines.f kj142 t157 x16_3).bind fun t163 => (some t163)) else (none))) = some r := by rw [if_neg (show ¬ (false = true) by decide)] at H; exact H
             clear H
             have H := H1
             clear H1
             by_cases c292 : (x16_3.length : Int) = 0
             ·rw [if_pos c292] at H
              have c292b0 : ((x16_3.length : Int) == 0) = true := beq_iff_eq.mpr c292
              have c292b1 : ((x16_3.length : Int) != 0) = false := bne_eq_false_iff_eq.mpr c292
              clear c292
              by_cases c293 : t158 = 3
              rotate_left
              ·rw [if_neg c293] at H; exact absurd H (by simp)
              rw [if_pos c293] at H
              have c293b0 : (t158 == 3) = true := beq_iff_eq.mpr c293
              have c293b1 : (t158 != 3) = false := bne_eq_false_iff_eq.mpr c293
              clear c293
              by_cases c294 : (x6_2.length : Int) = 0
              rotate_left
              ·rw [if_neg c294] at H; exact absurd H (by simp)
              rw [if_pos c294] at H
              have c294b0 : ((x6_2.length : Int) == 0) = true := beq_iff_eq.mpr c294
              have c294b1 : ((x6_2.length : Int) != 0) = false := bne_eq_false_iff_eq.mpr c294
              clear c294
              obtain rfl := Option.some.inj H
              obtain ⟨Ao295, co295, eo295⟩ := Kd.R_slice HO_16.out
              subst eo295
              obtain ⟨Ao296, co296, eo296⟩ := Kd.R_slice HO_14.out
              subst eo296
              go_wp2
              go_ret
              exact ⟨by first | rfl | (simp [errW_none, errW_some] <;> rfl) | (simp [*, errW_none, errW_some] <;> rfl), by repeat (first | (with_reducible first | exact HB.out | apply below_alloc | apply pw_below_drewN | apply below_drew1 | refine below_set ?_ GE131.out | refine below_set ?_ GE137.out) | exact HB.out)⟩
             rw [if_neg c292] at H
             have c292b0 : ((x16_3.length : Int) == 0) = false := beq_eq_false_iff_ne.mpr c292
             have c292b1 : ((x16_3.length : Int) != 0) = true := bne_iff_ne.mpr c292
             have c292b2 : ¬ (x16_3 = []) := fun h_ => c292 (by rw [h_]; rfl)
             by_cases c299 : t158 = 0
             rotate_left
             ·rw [if_neg c299] at H; exact absurd H (by simp)
             rw [if_pos c299] at H
             have c299b0 : (t158 == 0) = true := beq_iff_eq.mpr c299
             have c299b1 : (t158 != 0) = false := bne_eq_false_iff_eq.mpr c299
             clear c299
             replace H := Option.bind_eq_some_iff.mp H
             obtain ⟨t163, A3000, H⟩ := H
             replace H : (some t163) = some r := H
             have A300 := Aside0.mk A3000
             clear A3000
             obtain rfl := Option.some.inj H
             obtain ⟨Ao301, co301, eo301⟩ := Kd.R_slice HO_16.out
             subst eo301
             obtain ⟨Ao302, co302, eo302⟩ := Kd.R_slice HO_14.out
             subst eo302
             go_wp2_with (first | (go_at_call 15; (with_reducible refine (Pa.quartermasterref18_Lines.calls kj142 _ _ t157 _ _ x16_3 t163 _ ?side1 ?side2 ?side3 ?side4 A300.out).mono ?_); (case side1 => repeat (first | exact (Kd.R_reads' HO_14.out).2.2 | (with_reducible refine Kd.C_alloc ?_ _) | (with_reducible refine Kd.C_drewN ?_ _) | (with_reducible refine Kd.C_drew ?_))); (case side2 => exact (Kd.R_reads' HO_14.out).2.1); (case side3 => repeat (first | exact (Kd.R_reads' HO_16.out).2.2 | (with_reducible refine Kd.C_alloc ?_ _) | (with_reducible refine Kd.C_drewN ?_ _) | (with_reducible refine Kd.C_drew ?_))); (case side4 => exact (Kd.R_reads' HO_16.out).2.1); rintro e w' ⟨rfl, ⟨nd, rfl⟩⟩))
             go_ret
             exact ⟨by first | rfl | (simp [errW_none, errW_some] <;> rfl) | (simp [*, errW_none, errW_some] <;> rfl), by repeat (first | (with_reducible first | exact HB.out | apply below_alloc | apply pw_below_drewN | apply below_drew1 | refine below_set ?_ GE131.out | refine below_set ?_ GE137.out) | exact HB.out)⟩
           as_aux_lemma =>
            subst c149
            have H1 : (if 0 ≤ x17_3 then (if x17_3 < (l0_2.length : Int) then (if x17_3 = 0 then (if (wrap64 (((rd_T33 l0_2 x17_3).f2) - x138000_2)) < 0 then (none) else (if (wrap64 (((rd_T33 l0_2 x17_3).f2) - x138000_2)) > 0 then (if x16_3.length < 5864062014805 then (lawAll.l1 kj142 x6_2 t157 t158 (x16_3 ++ [(⟨(rd_T33 l0_2 x17_3).f0, (rd_T33 l0_2 x17_3).f1, wrap64 (((rd_T33 l0_2 x17_3).f2) - x138000_2)⟩ : S33)]) (wrap64 (x17_3 + 1)) a0_0 a0_1 l0_2 x138000_2 x138001_2 x138002_2 x138003_2) else (none)) else (lawAll.l1 kj142 x6_2 t157 t158 x16_3 (wrap64 (x17_3 + 1)) a0_0 a0_1 l0_2 x138000_2 x138001_2 x138002_2 x138003_2))) else (if x17_3 = 1 then (if (wrap64 (((rd_T33 l0_2 x17_3).f2) - x138001_2)) < 0 then (none) else (if (wrap64 (((rd_T33 l0_2 x17_3).f2) - x138001_2)) > 0 then (if x16_3.length < 5864062014805 then (lawAll.l1 kj142 x6_2 t157 t158 (x16_3 ++ [(⟨(rd_T33 l0_2 x17_3).f0, (rd_T33 l0_2 x17_3).f1, wrap64 (((rd_T33 l0_2 x17_3).f2) - x138001_2)⟩ : S33)]) (wrap64 (x17_3 + 1)) a0_0 a0_1 l0_2 x138000_2 x138001_2 x138002_2 x138003_2) else (none)) else (lawAll.l1 kj142 x6_2 t157 t158 x16_3 (wrap64 (x17_3 + 1)) a0_0 a0_1 l0_2 x138000_2 x138001_2 x138002_2 x138003_2))) else (if x17_3 = 2 then (if (wrap64 (((rd_T33 l0_2 x17_3).f2) - x138002_2)) < 0 then (none) else (if (wrap64 (((rd_T33 l0_2 x17_3).f2) - x138002_2)) > 0 then (if x16_3.length < 5864062014805 then (lawAll.l1 kj142 x6_2 t157 t158 (x16_3 ++ [(⟨(rd_T33 l0_2 x17_3).f0, (rd_T33 l0_2 x17_3).f1, wrap64 (((rd_T33 l0_2 x17_3).f2) - x138002_2)⟩ : S33)]) (wrap64 (x17_3 + 1)) a0_0 a0_1 l0_2 x138000_2 x138001_2 x138002_2 x138003_2) else (none)) else (lawAll.l1 kj142 x6_2 t157 t158 x16_3 (wrap64 (x17_3 + 1)) a0_0 a0_1 l0_2 x138000_2 x138001_2 x138002_2 x138003_2))) else (if x17_3 = 3 then (if (wrap64 (((rd_T33 l0_2 x17_3).f2) - x138003_2)) < 0 then (none) else (if (wrap64 (((rd_T33 l0_2 x17_3).f2) - x138003_2)) > 0 then (if x16_3.length < 5864062014805 then (lawAll.l1 kj142 x6_2 t157 t158 (x16_3 ++ [(⟨(rd_T33 l0_2 x17_3).f0, (rd_T33 l0_2 x17_3).f1, wrap64 (((rd_T33 l0_2 x17_3).f2) - x138003_2)⟩ : S33)]) (wrap64 (x17_3 + 1)) a0_0 a0_1 l0_2 x138000_2 x138001_2 x138002_2 x138003_2) else (none)) else (lawAll.l1 kj142 x6_2 t157 t158 x16_3 (wrap64 (x17_3 + 1)) a0_0 a0_1 l0_2 x138000_2 x138001_2 x138002_2 x138003_2))) else (none))))) else (none)) else (none)) = some r := by rw [if_pos rfl] at H; exact H
            clear H
            have H := H1
            clear H1
            by_cases c150 : 0 ≤ x17_3
            rotate_left
            ·rw [if_neg c150] at H; exact absurd H (by simp)
            rw [if_pos c150] at H
            have c150b0 : decide (0 ≤ x17_3) = true := decide_eq_true c150
            clear c150
            by_cases c151 : x17_3 < (l0_2.length : Int)
            rotate_left
            ·rw [if_neg c151] at H; exact absurd H (by simp)
            rw [if_pos c151] at H
            have c151b0 : decide (x17_3 < (l0_2.length : Int)) = true := decide_eq_true c151
            clear c151
            by_cases c152 : x17_3 = 0
            ·as_aux_lemma =>
              rw [if_pos c152] at H
              have c152b0 : (x17_3 == 0) = true := beq_iff_eq.mpr c152
              have c152b1 : (x17_3 != 0) = false := bne_eq_false_iff_eq.mpr c152
              have HEQ_ := Aside0.mk c152
              clear c152
              by_cases c153 : (wrap64 (((rd_T33 l0_2 x17_3).f2) - x138000_2)) < 0
              ·rw [if_pos c153] at H; exact absurd H (by simp)
              rw [if_neg c153] at H
              have c153b0 : decide ((wrap64 (((rd_T33 l0_2 x17_3).f2) - x138000_2)) < 0) = false := decide_eq_false c153
              clear c153
              have Hc164_ := Aside0.mk H
              clear H
              have hnb177 := NB131_137.out
              have hnc177 := NB137_131.out
              have hcz178_0 : wc.cell? ⟨gb131, 0, none⟩ = some (.int .i64 a0_0) := (blk_cell BK131.out 0).trans rfl
              have hcz178_1 : wc.cell? ⟨gb131, 1, none⟩ = some (.int .i64 a0_1) := (blk_cell BK131.out 1).trans rfl
              have hcz178_2 : wc.cell? ⟨gb131, 2, none⟩ = some (.slice A0_2 l0_2.length c0_2) := (blk_cell BK131.out 2).trans rfl
              have hfz178_0 := blk_frozen BK131.out 0
              have hfz178_1 := blk_frozen BK131.out 1
              have hfz178_2 := blk_frozen BK131.out 2
              have p164 : 0 ≤ (x17_3 : Int) := of_decide_eq_true (by first | (with_reducible assumption) | assumption)
              have q164 : x17_3 < (l0_2.length : Int) := of_decide_eq_true (by first | (with_reducible assumption) | assumption)
              obtain ⟨ad164, e164, hx164_0, hx164_1, hx164_2⟩ := at_T33 HR0_2.out x17_3 p164 q164
              cases e164
              replace hx164_0 := (HB.out.cell (World.block_lt_of_cell? w _ hx164_0)).trans hx164_0
              replace hx164_1 := (HB.out.cell (World.block_lt_of_cell? w _ hx164_1)).trans hx164_1
              replace hx164_2 := (HB.out.cell (World.block_lt_of_cell? w _ hx164_2)).trans hx164_2
              replace p164 := eq_true p164
              replace q164 := eq_true q164
              try go_wp2_with (first | ((with_reducible refine gate_dst (N := 18) rfl ?_); (try (refine gate_guard (by rfl) ?_; dsimp only)); refine box_event ?hg (N := 18) ?hd (cs := #[.int .i64 0, .int .i64 0, .int .i64 0]) (t := 33) ?hr ?_; (case hd => rfl); (case hg => rfl); (case hr => first | (go_simp; done) | (go_simp; rfl)); intro gb165 hg w179 hbox hb; have n0_ := Aside0.mk (Kd.S_below (Kd.S_elderB (by (with_reducible repeat (first | apply Kd.S_alloc | apply Kd.S_drewN | apply Kd.S_drew)); exact HO_6.out) gb165 (Nat.le_of_eq hg.symm)) hb); have n1_ := Aside0.mk (Kd.R_below (Kd.R_elderB (by (with_reducible repeat (first | apply Kd.R_alloc | apply Kd.R_drewN | apply Kd.R_drew)); exact HO_14.out) gb165 (Nat.le_of_eq hg.symm)) hb); have n2_ := Aside0.mk (Kd.R_below (Kd.R_elderB (by (with_reducible repeat (first | apply Kd.R_alloc | apply Kd.R_drewN | apply Kd.R_drew)); exact HO_16.out) gb165 (Nat.le_of_eq hg.symm)) hb); have n3_ := Aside0.mk (blk_below (g := gb131) (o := .cells #[.int .i64 a0_0, .int .i64 a0_1, .slice (some ad164) l0_2.length c0_2] 25 (0, 0)) (by (with_reducible repeat (first | apply blk_drewN | apply blk_drew | apply blk_alloc)); exact BK131.out) hb); have n4_ := Aside0.mk (blk_below (g := gb137) (o := .cells #[.int .i64 x138000_2, .int .i64 x138001_2, .int .i64 x138002_2, .int .i64 x138003_2] 41 (0, 0)) (by (with_reducible repeat (first | apply blk_drewN | apply blk_drew | apply blk_alloc)); exact BK137.out) hb); have n5_ := Aside0.mk (below_step (by repeat (first | (with_reducible first | exact HB.out | apply below_alloc | apply pw_below_drewN | apply below_drew1 | refine below_set ?_ GE131.out | refine below_set ?_ GE137.out) | exact HB.out)) hb); have n6_ := Aside0.mk (hbox); have n7_ := Aside0.mk ((by rw [hg]; exact (below_size (by repeat (first | (with_reducible first | exact HB.out | apply below_alloc | apply pw_below_drewN | apply below_drew1 | refine below_set ?_ GE131.out | refine below_set ?_ GE137.out) | exact HB.out))) : w.heap.size ≤ gb165)); have n8_ := Aside0.mk ((by rw [hg]; exact (below_size (by repeat (first | (with_reducible first | exact HB.out | apply below_alloc | apply pw_below_drewN | apply below_drew1 | refine below_set ?_ GE131.out | refine below_set ?_ GE137.out) | exact HB.out))) : w.heap.size ≤ gb165)); have n9_ := Aside0.mk ((by rw [hg]; exact Nat.ne_of_lt (blk_lt (g := gb131) (o := .cells #[.int .i64 a0_0, .int .i64 a0_1, .slice (some ad164) l0_2.length c0_2] 25 (0, 0)) (by (with_reducible repeat (first | apply blk_drewN | apply blk_drew | apply blk_alloc)); exact BK131.out)) : gb131 ≠ gb165)); have n10_ := Aside0.mk ((by rw [hg]; exact Nat.ne_of_gt (blk_lt (g := gb131) (o := .cells #[.int .i64 a0_0, .int .i64 a0_1, .slice (some ad164) l0_2.length c0_2] 25 (0, 0)) (by (with_reducible repeat (first | apply blk_drewN | apply blk_drew | apply blk_alloc)); exact BK131.out)) : gb165 ≠ gb131)); have n11_ := Aside0.mk ((by rw [hg]; exact Nat.ne_of_lt (blk_lt (g := gb137) (o := .cells #[.int .i64 x138000_2, .int .i64 x138001_2, .int .i64 x138002_2, .int .i64 x138003_2] 41 (0, 0)) (by (with_reducible repeat (first | apply blk_drewN | apply blk_drew | apply blk_alloc)); exact BK137.out)) : gb137 ≠ gb165)); have n12_ := Aside0.mk ((by rw [hg]; exact Nat.ne_of_gt (blk_lt (g := gb137) (o := .cells #[.int .i64 x138000_2, .int .i64 x138001_2, .int .i64 x138002_2, .int .i64 x138003_2] 41 (0, 0)) (by (with_reducible repeat (first | apply blk_drewN | apply blk_drew | apply blk_alloc)); exact BK137.out)) : gb165 ≠ gb137)); clear HO_6; clear HO_14; clear HO_16; clear BK131; clear BK137; clear HB; have HO_6 := n0_; have HO_14 := n1_; have HO_16 := n2_; have BK131 := n3_; have BK137 := n4_; have HB := n5_; have BK165 := n6_; have GW165 := n7_; have GE165 := n8_; have NB131_165 := n9_; have NB165_131 := n10_; have NB137_165 := n11_; have NB165_137 := n12_; clear n0_ n1_ n2_ n3_ n4_ n5_ n6_ n7_ n8_ n9_ n10_ n11_ n12_; clear hb hbox hg; have hnb180 := NB165_131.out; have hnc180 := NB131_165.out; have hnb181 := NB165_137.out; have hnc181 := NB137_165.out; have hcz182_0 : w179.cell? ⟨gb165, 0, none⟩ = some (.int .i64 0) := (blk_cell BK165.out 0).trans rfl; have hcz182_1 : w179.cell? ⟨gb165, 1, none⟩ = some (.int .i64 0) := (blk_cell BK165.out 1).trans rfl; have hcz182_2 : w179.cell? ⟨gb165, 2, none⟩ = some (.int .i64 0) := (blk_cell BK165.out 2).trans rfl; have hfz182_0 := blk_frozen BK165.out 0; have hfz182_1 := blk_frozen BK165.out 1; have hfz182_2 := blk_frozen BK165.out 2))
              have n0_ : Aside0 (Kd.S k25 25 (((w179.setCell ⟨gb165, 0, none⟩ (.int .i64 ((rd_T33 l0_2 x17_3).f0))).setCell ⟨gb165, 1, none⟩ (.int .i64 ((rd_T33 l0_2 x17_3).f1))).setCell ⟨gb165, 2, none⟩ (.int .i64 ((rd_T33 l0_2 x17_3).f2))) w.heap.size (fun k_ => some k_ ≠ (v161 : Value).ownBlock ∧ some k_ ≠ (u16 : Value).ownBlock ∧ k_ ≠ gb131 ∧ k_ ≠ gb165) (.slice Ao141 x6_2.length co141) x6_2) := ⟨by (with_reducible repeat (first | apply Kd.S_alloc | apply Kd.S_drewN | apply Kd.S_drew)); exact Kd.S_mono (Kd.S_far (p := ⟨gb165, 2, none⟩) (Kd.S_far (p := ⟨gb165, 1, none⟩) (Kd.S_far (p := ⟨gb165, 0, none⟩) (Kd.S_mono HO_6.out (fun k_ hk => (⟨hk, hk.2⟩ : _ ∧ k_ ≠ gb165))) (fun _ hk => hk.2) (.int .i64 ((rd_T33 l0_2 x17_3).f0))) (fun _ hk => hk.2) (.int .i64 ((rd_T33 l0_2 x17_3).f1))) (fun _ hk => hk.2) (.int .i64 ((rd_T33 l0_2 x17_3).f2))) (fun _ hk => ⟨hk.1.1.1, ⟨hk.1.1.2.1, ⟨hk.1.1.2.2, hk.1.2⟩⟩⟩)⟩
              have n1_ : Aside0 (Kd.R k33 33 (((w179.setCell ⟨gb165, 0, none⟩ (.int .i64 ((rd_T33 l0_2 x17_3).f0))).setCell ⟨gb165, 1, none⟩ (.int .i64 ((rd_T33 l0_2 x17_3).f1))).setCell ⟨gb165, 2, none⟩ (.int .i64 ((rd_T33 l0_2 x17_3).f2))) w.heap.size (fun k_ => some k_ ≠ (u16 : Value).ownBlock ∧ k_ ≠ gb165) v161 t157) := ⟨by (with_reducible repeat (first | apply Kd.R_alloc | apply Kd.R_drewN | apply Kd.R_drew)); exact Kd.R_mono (Kd.R_far (p := ⟨gb165, 2, none⟩) (Kd.R_far (p := ⟨gb165, 1, none⟩) (Kd.R_far (p := ⟨gb165, 0, none⟩) (Kd.R_mono HO_14.out (fun k_ hk => (⟨hk, hk.2⟩ : _ ∧ k_ ≠ gb165))) (fun _ hk => hk.2) (.int .i64 ((rd_T33 l0_2 x17_3).f0))) (fun _ hk => hk.2) (.int .i64 ((rd_T33 l0_2 x17_3).f1))) (fun _ hk => hk.2) (.int .i64 ((rd_T33 l0_2 x17_3).f2))) (fun _ hk => ⟨hk.1.1, hk.1.2⟩)⟩
              have n2_ : Aside0 (Kd.R k33 33 (((w179.setCell ⟨gb165, 0, none⟩ (.int .i64 ((rd_T33 l0_2 x17_3).f0))).setCell ⟨gb165, 1, none⟩ (.int .i64 ((rd_T33 l0_2 x17_3).f1))).setCell ⟨gb165, 2, none⟩ (.int .i64 ((rd_T33 l0_2 x17_3).f2))) w.heap.size (fun k_ => some k_ ≠ (v161 : Value).ownBlock ∧ k_ ≠ gb165) u16 x16_3) := ⟨by (with_reducible repeat (first | apply Kd.R_alloc | apply Kd.R_drewN | apply Kd.R_drew)); exact Kd.R_mono (Kd.R_far (p := ⟨gb165, 2, none⟩) (Kd.R_far (p := ⟨gb165, 1, none⟩) (Kd.R_far (p := ⟨gb165, 0, none⟩) (Kd.R_mono HO_16.out (fun k_ hk => (⟨hk, hk.2⟩ : _ ∧ k_ ≠ gb165))) (fun _ hk => hk.2) (.int .i64 ((rd_T33 l0_2 x17_3).f0))) (fun _ hk => hk.2) (.int .i64 ((rd_T33 l0_2 x17_3).f1))) (fun _ hk => hk.2) (.int .i64 ((rd_T33 l0_2 x17_3).f2))) (fun _ hk => ⟨hk.1.1, hk.1.2⟩)⟩
              have n3_ : Aside0 ((((w179.setCell ⟨gb165, 0, none⟩ (.int .i64 ((rd_T33 l0_2 x17_3).f0))).setCell ⟨gb165, 1, none⟩ (.int .i64 ((rd_T33 l0_2 x17_3).f1))).setCell ⟨gb165, 2, none⟩ (.int .i64 ((rd_T33 l0_2 x17_3).f2))).heap[gb131]? = some (.cells #[.int .i64 a0_0, .int .i64 a0_1, .slice (some ad164) l0_2.length c0_2] 25 (0, 0))) := ⟨by (with_reducible repeat (first | apply blk_drewN | apply blk_drew | apply blk_alloc)); refine blk_far ?_ NB131_165.out _; (with_reducible repeat (first | apply blk_drewN | apply blk_drew | apply blk_alloc)); refine blk_far ?_ NB131_165.out _; (with_reducible repeat (first | apply blk_drewN | apply blk_drew | apply blk_alloc)); refine blk_far ?_ NB131_165.out _; (with_reducible repeat (first | apply blk_drewN | apply blk_drew | apply blk_alloc)); exact BK131.out⟩
              have n4_ : Aside0 ((((w179.setCell ⟨gb165, 0, none⟩ (.int .i64 ((rd_T33 l0_2 x17_3).f0))).setCell ⟨gb165, 1, none⟩ (.int .i64 ((rd_T33 l0_2 x17_3).f1))).setCell ⟨gb165, 2, none⟩ (.int .i64 ((rd_T33 l0_2 x17_3).f2))).heap[gb137]? = some (.cells #[.int .i64 x138000_2, .int .i64 x138001_2, .int .i64 x138002_2, .int .i64 x138003_2] 41 (0, 0))) := ⟨by (with_reducible repeat (first | apply blk_drewN | apply blk_drew | apply blk_alloc)); refine blk_far ?_ NB137_165.out _; (with_reducible repeat (first | apply blk_drewN | apply blk_drew | apply blk_alloc)); refine blk_far ?_ NB137_165.out _; (with_reducible repeat (first | apply blk_drewN | apply blk_drew | apply blk_alloc)); refine blk_far ?_ NB137_165.out _; (with_reducible repeat (first | apply blk_drewN | apply blk_drew | apply blk_alloc)); exact BK137.out⟩
              have n5_ : Aside0 ((((w179.setCell ⟨gb165, 0, none⟩ (.int .i64 ((rd_T33 l0_2 x17_3).f0))).setCell ⟨gb165, 1, none⟩ (.int .i64 ((rd_T33 l0_2 x17_3).f1))).setCell ⟨gb165, 2, none⟩ (.int .i64 ((rd_T33 l0_2 x17_3).f2))).heap[gb165]? = some (.cells #[.int .i64 ((rd_T33 l0_2 x17_3).f0), .int .i64 ((rd_T33 l0_2 x17_3).f1), .int .i64 ((rd_T33 l0_2 x17_3).f2)] 33 (0, 0))) := ⟨by (with_reducible repeat (first | apply blk_drewN | apply blk_drew | apply blk_alloc)); refine blk_put (cs := #[.int .i64 ((rd_T33 l0_2 x17_3).f0), .int .i64 ((rd_T33 l0_2 x17_3).f1), .int .i64 0]) ?_ 2 _ rfl; (with_reducible repeat (first | apply blk_drewN | apply blk_drew | apply blk_alloc)); refine blk_put (cs := #[.int .i64 ((rd_T33 l0_2 x17_3).f0), .int .i64 0, .int .i64 0]) ?_ 1 _ rfl; (with_reducible repeat (first | apply blk_drewN | apply blk_drew | apply blk_alloc)); refine blk_put (cs := #[.int .i64 0, .int .i64 0, .int .i64 0]) ?_ 0 _ rfl; (with_reducible repeat (first | apply blk_drewN | apply blk_drew | apply blk_alloc)); exact BK165.out⟩
              have n6_ : Aside0 (Below w.heap.size w (((w179.setCell ⟨gb165, 0, none⟩ (.int .i64 ((rd_T33 l0_2 x17_3).f0))).setCell ⟨gb165, 1, none⟩ (.int .i64 ((rd_T33 l0_2 x17_3).f1))).setCell ⟨gb165, 2, none⟩ (.int .i64 ((rd_T33 l0_2 x17_3).f2)))) := ⟨by repeat (first | (with_reducible first | exact HB.out | apply below_alloc | apply pw_below_drewN | apply below_drew1 | refine below_set ?_ GE131.out | refine below_set ?_ GE137.out | refine below_set ?_ GE165.out) | exact HB.out)⟩
              (try clear HO_6); (try clear HO_14); (try clear HO_16); (try clear BK131); (try clear BK137); (try clear BK165); (try clear HB)
              generalize (((w179.setCell ⟨gb165, 0, none⟩ (.int .i64 ((rd_T33 l0_2 x17_3).f0))).setCell ⟨gb165, 1, none⟩ (.int .i64 ((rd_T33 l0_2 x17_3).f1))).setCell ⟨gb165, 2, none⟩ (.int .i64 ((rd_T33 l0_2 x17_3).f2))) = w183 at n0_ n1_ n2_ n3_ n4_ n5_ n6_ ⊢
              have HO_6 := n0_; have HO_14 := n1_; have HO_16 := n2_; have BK131 := n3_; have BK137 := n4_; have BK165 := n5_; have HB := n6_
              clear n0_ n1_ n2_ n3_ n4_ n5_ n6_
              have n0_ := Aside0.mk (Kd.S_drew HO_6.out)
              have n1_ := Aside0.mk (Kd.R_drew HO_14.out)
              have n2_ := Aside0.mk (Kd.R_drew HO_16.out)
              have n3_ := Aside0.mk (blk_drew BK131.out)
              have n4_ := Aside0.mk (blk_drew BK137.out)
              have n5_ := Aside0.mk (blk_drew BK165.out)
              have n6_ := Aside0.mk (below_drew1 HB.out)
              clear HO_6 HO_14 HO_16 BK131 BK137 BK165 HB
              have HO_6 := n0_; have HO_14 := n1_; have HO_16 := n2_; have BK131 := n3_; have BK137 := n4_; have BK165 := n5_; have HB := n6_
              clear n0_ n1_ n2_ n3_ n4_ n5_ n6_
              refine start_ (n := 8) (S := fun w' => w'.cell? ⟨gb165, 0, none⟩ = some (.int .i64 ((rd_T33 l0_2 x17_3).f0)) ∧ w'.cell? ⟨gb165, 1, none⟩ = some (.int .i64 ((rd_T33 l0_2 x17_3).f1)) ∧ w'.cell? ⟨gb165, 2, none⟩ = some (.int .i64 ((rd_T33 l0_2 x17_3).f2)) ∧ w'.cell? ⟨gb137, 0, none⟩ = some (.int .i64 x138000_2) ∧ w'.cell? ⟨gb137, 1, none⟩ = some (.int .i64 x138001_2) ∧ w'.cell? ⟨gb137, 2, none⟩ = some (.int .i64 x138002_2) ∧ w'.cell? ⟨gb137, 3, none⟩ = some (.int .i64 x138003_2)) (ds := [7]) #[ff, ff, ff, ff, ff, ff, ff, ff] (by kernel_rfl) rfl rfl ⟨(blk_cell BK165.out 0).trans rfl, (blk_cell BK165.out 1).trans rfl, (blk_cell BK165.out 2).trans rfl, (blk_cell BK137.out 0).trans rfl, (blk_cell BK137.out 1).trans rfl, (blk_cell BK137.out 2).trans rfl, (blk_cell BK137.out 3).trans rfl⟩ (fun hHeld => ?_); refine with_tabW lawAll.tab23 lawAll.bits23 (fun HT_ HW_ => ?_)
              generalize w183.drew = w184 at HO_6 HO_14 HO_16 BK131 BK137 BK165 HB hHeld ⊢
              refine pure_ (i := 0) (N := some 165) (v := ?_) (a' := ?_) #[tt, ff, ff, ff, ff, ff, ff, ff] rfl rfl (any_of HT_.out (by kernel_rfl)) (fun _ _ _ h => h) (Or.inl ⟨by rfl, ?_⟩) ?_ ?_
              rotate_left; (· intro w'; go_simp; with_reducible rfl); rotate_left; (· simp only [Act.put, sA, sB, sC, i64_w, i32_w]; rfl)
              refine pure_ (i := 2) (N := some 167) (v := ?_) (a' := ?_) #[tt, ff, tt, ff, ff, ff, ff, ff] rfl rfl (any_of HT_.out (by kernel_rfl)) (fun _ _ _ h => h) (Or.inl ⟨by rfl, ?_⟩) ?_ ?_
              rotate_left; (· intro w'; go_simp; with_reducible rfl); rotate_left; (· simp only [Act.put, sA, sB, sC, i64_w, i32_w]; rfl)
              have cE_ := HEQ_.out
              refine pure_ (i := 3) (N := some 168) (v := ?_) (a' := ?_) #[tt, ff, tt, tt, ff, ff, ff, ff] rfl rfl (any_of HT_.out (by kernel_rfl)) (fun _ _ _ h => h) (Or.inl ⟨by rfl, ?_⟩) ?_ ?_
              rotate_left; (· intro w'; go_simp; with_reducible rfl); rotate_left; (· simp only [Act.put, sA, sB, sC, i64_w, i32_w]; rfl)
              clear cE_
              refine take_ (i := 1) (N := some 166) (v := ?_) (a' := ?_) #[tt, tt, tt, tt, ff, ff, ff, ff] rfl rfl (take_ofW HT_.out HW_.out (by kernel_rfl)) (fun _ _ _ h => h) (Or.inl ⟨by rfl, ?_⟩) hHeld ?_ ?_
              rotate_left; (· rintro w' ⟨s0, s1, s2, s3, s4, s5, s6⟩; go_simp; with_reducible rfl); rotate_left; (· simp only [Act.put, sA, sB, sC, i64_w, i32_w]; rfl)
              refine take_ (i := 4) (N := some 169) (v := ?_) (a' := ?_) #[tt, tt, tt, tt, tt, ff, ff, ff] rfl rfl (take_ofW HT_.out HW_.out (by kernel_rfl)) (fun _ _ _ h => h) (Or.inl ⟨by rfl, ?_⟩) hHeld ?_ ?_
              rotate_left; (· rintro w' ⟨s0, s1, s2, s3, s4, s5, s6⟩; go_simp; with_reducible rfl); rotate_left; (· simp only [Act.put, sA, sB, sC, i64_w, i32_w]; rfl)
              refine pure_ (i := 5) (N := some 170) (v := ?_) (a' := ?_) #[tt, tt, tt, tt, tt, tt, ff, ff] rfl rfl (any_of HT_.out (by kernel_rfl)) (fun _ _ _ h => h) (Or.inl ⟨by rfl, ?_⟩) ?_ ?_
              rotate_left; (· intro w'; go_simp; with_reducible rfl); rotate_left; (· simp only [Act.put, sA, sB, sC, i64_w, i32_w]; rfl)
              refine pure_ (i := 6) (N := some 171) (v := ?_) (a' := ?_) #[tt, tt, tt, tt, tt, tt, tt, ff] rfl rfl (any_of HT_.out (by kernel_rfl)) (fun _ _ _ h => h) (Or.inl ⟨by rfl, ?_⟩) ?_ ?_
              rotate_left; (· intro w'; go_simp; with_reducible rfl); rotate_left; (· simp only [Act.put, sA, sB, sC, i64_w, i32_w]; rfl)
              refine last_ (i := 7) (N := none) #[tt, tt, tt, tt, tt, tt, tt, tt] rfl rfl (one_of HT_.out (by kernel_rfl)) (by decide) (fun K hK => ?_)
              have hs185 : w184.cell? ⟨gb165, 2, none⟩ = some (.int .i64 ((rd_T33 l0_2 x17_3).f2)) := (blk_cell BK165.out 2).trans rfl
              have hfs185 := blk_frozen BK165.out 2
              have hns185_0 := NB131_165.out
              have hns185_1 := NB137_165.out
              have hms185_0 := NB165_131.out
              have hms185_1 := NB165_137.out
              refine skip_ (w1 := ?_) (by rfl) rfl ?_ ?_
              rotate_left
              ·go_simp
               rfl
              refine hK.out _ _ ?_
              clear hK K
              refine done_ (done_of HT_.out (by kernel_rfl)) ?_
              have H := Hc164_.out
              clear Hc164_
              by_cases c164 : (wrap64 (((rd_T33 l0_2 x17_3).f2) - x138000_2)) > 0
              rotate_left
              ·rw [if_neg c164] at H
               have c164b0 : decide (0 < (wrap64 (((rd_T33 l0_2 x17_3).f2) - x138000_2))) = false := decide_eq_false c164
               clear c164
               have H' := Aside0.mk H
               clear H
               have hcz186_0 : w184.cell? ⟨gb165, 0, none⟩ = some (.int .i64 ((rd_T33 l0_2 x17_3).f0)) := (blk_cell BK165.out 0).trans rfl
               have hcz186_1 : w184.cell? ⟨gb165, 1, none⟩ = some (.int .i64 ((rd_T33 l0_2 x17_3).f1)) := (blk_cell BK165.out 1).trans rfl
               have hcz186_2 : w184.cell? ⟨gb165, 2, none⟩ = some (.int .i64 ((rd_T33 l0_2 x17_3).f2)) := (blk_cell BK165.out 2).trans rfl
               have hfz186_0 := blk_frozen BK165.out 0
               have hfz186_1 := blk_frozen BK165.out 1
               have hfz186_2 := blk_frozen BK165.out 2
               try go_wp2
               go_roundg kj142
               case measure => have := HJ3.out; have := HK2.out; have := HK3.out; have := HJ142.out; omega
               case rel => exact ⟨(x16_3), (wrap64 (x17_3 + 1)), (by first | rfl | (simp; done) | (simp [*]; done)), H', ⟨by have := HJ3.out; have := HK2.out; have := HK3.out; have := HJ142.out; omega⟩, ⟨by (with_reducible repeat (first | apply Kd.S_alloc | apply Kd.S_drewN | apply Kd.S_drew)); exact Kd.S_mono (Kd.S_far (p := ⟨gb165, 2, none⟩) (Kd.S_mono HO_6.out (fun k_ hk => (⟨hk, hk.2.2.2⟩ : _ ∧ k_ ≠ gb165))) (fun _ hk => hk.2) (.int .i64 (wrap64 (((rd_T33 l0_2 x17_3).f2) - x138000_2)))) (fun _ hk => ⟨hk.1.1, ⟨hk.1.2.1, hk.1.2.2.1⟩⟩)⟩, ⟨by (with_reducible repeat (first | apply Kd.R_alloc | apply Kd.R_drewN | apply Kd.R_drew)); exact Kd.R_mono (Kd.R_far (p := ⟨gb165, 2, none⟩) (Kd.R_mono HO_14.out (fun k_ hk => (⟨hk, hk.2⟩ : _ ∧ k_ ≠ gb165))) (fun _ hk => hk.2) (.int .i64 (wrap64 (((rd_T33 l0_2 x17_3).f2) - x138000_2)))) (fun _ hk => hk.1.1)⟩, ⟨by (with_reducible repeat (first | apply Kd.R_alloc | apply Kd.R_drewN | apply Kd.R_drew)); exact Kd.R_mono (Kd.R_far (p := ⟨gb165, 2, none⟩) (Kd.R_mono HO_16.out (fun k_ hk => (⟨hk, hk.2⟩ : _ ∧ k_ ≠ gb165))) (fun _ hk => hk.2) (.int .i64 (wrap64 (((rd_T33 l0_2 x17_3).f2) - x138000_2)))) (fun _ hk => hk.1.1)⟩, ⟨by (with_reducible repeat (first | apply blk_drewN | apply blk_drew | apply blk_alloc)); refine blk_far ?_ NB131_165.out _; (with_reducible repeat (first | apply blk_drewN | apply blk_drew | apply blk_alloc)); exact BK131.out⟩, ⟨by (with_reducible repeat (first | apply blk_drewN | apply blk_drew | apply blk_alloc)); refine blk_far ?_ NB137_165.out _; (with_reducible repeat (first | apply blk_drewN | apply blk_drew | apply blk_alloc)); exact BK137.out⟩, ⟨by repeat (first | (with_reducible first | exact HB.out | apply below_alloc | apply pw_below_drewN | apply below_drew1 | refine below_set ?_ GE131.out | refine below_set ?_ GE137.out | refine below_set ?_ GE165.out) | exact HB.out)⟩⟩
              rw [if_pos c164] at H
              have c164b0 : decide (0 < (wrap64 (((rd_T33 l0_2 x17_3).f2) - x138000_2))) = true := decide_eq_true c164
              clear c164
              by_cases c165 : x16_3.length < 5864062014805
              rotate_left
              ·rw [if_neg c165] at H; exact absurd H (by simp)
              rw [if_pos c165] at H
              have LMc165 := Aside0.mk c165
              clear c165
              obtain ⟨y166, hy166⟩ : ∃ y_ : List (S33), y_ = (x16_3 ++ [(⟨(rd_T33 l0_2 x17_3).f0, (rd_T33 l0_2 x17_3).f1, wrap64 (((rd_T33 l0_2 x17_3).f2) - x138000_2)⟩ : S33)]) := ⟨_, rfl⟩
              replace H : (lawAll.l1 kj142 x6_2 t157 t158 y166 (wrap64 (x17_3 + 1)) a0_0 a0_1 l0_2 x138000_2 x138001_2 x138002_2 x138003_2) = some r := by first | (rw [hy166]; with_reducible exact H) | (have H2_ := (Option.bind_some _ _).symm.trans H; rw [hy166]; with_reducible exact H2_) | (have H2_ := (Option.bind_some _ _).symm.trans H; with_reducible exact H2_) | with_reducible exact H | (rw [hy166]; exact H) | exact H
              have Ny166 := Aside0.mk hy166
              clear hy166
              have H' := Aside0.mk H
              clear H
              have hcz175_0 : w184.cell? ⟨gb165, 0, none⟩ = some (.int .i64 ((rd_T33 l0_2 x17_3).f0)) := (blk_cell BK165.out 0).trans rfl
              have hcz175_1 : w184.cell? ⟨gb165, 1, none⟩ = some (.int .i64 ((rd_T33 l0_2 x17_3).f1)) := (blk_cell BK165.out 1).trans rfl
              have hcz175_2 : w184.cell? ⟨gb165, 2, none⟩ = some (.int .i64 ((rd_T33 l0_2 x17_3).f2)) := (blk_cell BK165.out 2).trans rfl
              have hfz175_0 := blk_frozen BK165.out 0
              have hfz175_1 := blk_frozen BK165.out 1
              have hfz175_2 := blk_frozen BK165.out 2
              try go_wp2_with (first | ((with_reducible refine gate_builtin (b := .append) (xs := #[.tmp 178, .tmp 180]) rfl ?_); (try (refine gate_guard (by rfl) ?_; dsimp only)); at_builtin; refine Kd.R_append k33 (w0 := w) w.heap.size rfl (.tmp 178) (.tmp 180) 23 33 (.agg #[(.int .i64 0), (.int .i64 0), (.int .i64 0)]) 24 rfl Try.underlying23 info33 rfl (by decide) (by omega) u16 x16_3 (⟨(rd_T33 l0_2 x17_3).f0, (rd_T33 l0_2 x17_3).f1, wrap64 (((rd_T33 l0_2 x17_3).f2) - x138000_2)⟩ : S33) [.int .i64 ((rd_T33 l0_2 x17_3).f0), .int .i64 ((rd_T33 l0_2 x17_3).f1), .int .i64 (wrap64 (((rd_T33 l0_2 x17_3).f2) - x138000_2))] (fun k_ => some k_ ≠ (v161 : Value).ownBlock ∧ k_ ≠ gb165) (fun _ => False) rfl (by first | (go_simp; done) | (go_simp; rfl)) ?aP (fun _ hk => hk.elim) ?aF ?aO ?aB ?aS ?aL ?_; (case aP => exact k33_mkM _ _ _ (⟨(rd_T33 l0_2 x17_3).f0, (rd_T33 l0_2 x17_3).f1, wrap64 (((rd_T33 l0_2 x17_3).f2) - x138000_2)⟩ : S33)); (case aB => exact (by repeat (first | (with_reducible first | exact HB.out | apply below_alloc | apply pw_below_drewN | apply below_drew1 | refine below_set ?_ GE131.out | refine below_set ?_ GE137.out | refine below_set ?_ GE165.out) | exact HB.out))); (case aF => exact (fun k_ hk => ⟨Kd.fresh' (Kd.R_lt (by (with_reducible repeat (first | apply Kd.R_alloc | apply Kd.R_drewN | apply Kd.R_drew)); exact (Kd.R_mono (Kd.R_far (p := ⟨gb165, 2, none⟩) (Kd.R_mono HO_14.out (fun k_ hk => (⟨hk, hk.2⟩ : _ ∧ k_ ≠ gb165))) (fun _ hk => hk.2) (.int .i64 (wrap64 (((rd_T33 l0_2 x17_3).f2) - x138000_2)))) (fun _ h_ => h_.1)))) k_ hk, Kd.freshB (g := gb165) (o := .cells #[.int .i64 ((rd_T33 l0_2 x17_3).f0), .int .i64 ((rd_T33 l0_2 x17_3).f1), .int .i64 (wrap64 (((rd_T33 l0_2 x17_3).f2) - x138000_2))] 33 (0, 0)) (by (with_reducible repeat (first | apply blk_drewN | apply blk_drew | apply blk_alloc)); refine blk_put (cs := #[.int .i64 ((rd_T33 l0_2 x17_3).f0), .int .i64 ((rd_T33 l0_2 x17_3).f1), .int .i64 ((rd_T33 l0_2 x17_3).f2)]) ?_ 2 _ rfl; (with_reducible repeat (first | apply blk_drewN | apply blk_drew | apply blk_alloc)); exact BK165.out) k_ hk⟩)); (case aO => exact (by (with_reducible repeat (first | apply Kd.R_alloc | apply Kd.R_drewN | apply Kd.R_drew)); exact Kd.R_mono (Kd.R_far (p := ⟨gb165, 2, none⟩) (Kd.R_mono HO_16.out (fun k_ hk => (⟨hk, hk.2⟩ : _ ∧ k_ ≠ gb165))) (fun _ hk => hk.2) (.int .i64 (wrap64 (((rd_T33 l0_2 x17_3).f2) - x138000_2)))) (fun _ hk => ⟨hk.1.1, hk.1.2⟩))); (case aS => exact (below_size (by repeat (first | (with_reducible first | exact HB.out | apply below_alloc | apply pw_below_drewN | apply below_drew1 | refine below_set ?_ GE131.out | refine below_set ?_ GE137.out | refine below_set ?_ GE165.out) | exact HB.out)))); (case aL => have := LMc165.out; omega); intro v167 w176 ho hb hg hat; rw [← Ny166.out] at ho; have n0_ := Aside0.mk (Kd.S_after (ok := (fun k_ => some k_ ≠ (v161 : Value).ownBlock ∧ k_ ≠ gb131 ∧ k_ ≠ gb165)) (by (with_reducible repeat (first | apply Kd.S_alloc | apply Kd.S_drewN | apply Kd.S_drew)); exact Kd.S_mono (Kd.S_far (p := ⟨gb165, 2, none⟩) (Kd.S_mono HO_6.out (fun k_ hk => (⟨hk, hk.2.2.2⟩ : _ ∧ k_ ≠ gb165))) (fun _ hk => hk.2) (.int .i64 (wrap64 (((rd_T33 l0_2 x17_3).f2) - x138000_2)))) (fun _ hk => ⟨⟨hk.1.1, ⟨hk.1.2.2.1, hk.1.2.2.2⟩⟩, hk.1.2.1⟩)) hg hat); have n1_ := Aside0.mk (Kd.R_after (ok := (fun k_ => k_ ≠ gb165)) (by (with_reducible repeat (first | apply Kd.R_alloc | apply Kd.R_drewN | apply Kd.R_drew)); exact Kd.R_mono (Kd.R_far (p := ⟨gb165, 2, none⟩) (Kd.R_mono HO_14.out (fun k_ hk => (⟨hk, hk.2⟩ : _ ∧ k_ ≠ gb165))) (fun _ hk => hk.2) (.int .i64 (wrap64 (((rd_T33 l0_2 x17_3).f2) - x138000_2)))) (fun _ hk => ⟨hk.1.2, hk.1.1⟩)) hg hat); have n2_ := Aside0.mk (blk_grown (g := gb131) (o := .cells #[.int .i64 a0_0, .int .i64 a0_1, .slice (some ad164) l0_2.length c0_2] 25 (0, 0)) (by (with_reducible repeat (first | apply blk_drewN | apply blk_drew | apply blk_alloc)); refine blk_far ?_ NB131_165.out _; (with_reducible repeat (first | apply blk_drewN | apply blk_drew | apply blk_alloc)); exact BK131.out) hg (Kd.R_ne HO_16.out BK131.out (by decide))); have n3_ := Aside0.mk (blk_grown (g := gb137) (o := .cells #[.int .i64 x138000_2, .int .i64 x138001_2, .int .i64 x138002_2, .int .i64 x138003_2] 41 (0, 0)) (by (with_reducible repeat (first | apply blk_drewN | apply blk_drew | apply blk_alloc)); refine blk_far ?_ NB137_165.out _; (with_reducible repeat (first | apply blk_drewN | apply blk_drew | apply blk_alloc)); exact BK137.out) hg (Kd.R_ne HO_16.out BK137.out (by decide))); have n4_ := Aside0.mk (blk_grown (g := gb165) (o := .cells #[.int .i64 ((rd_T33 l0_2 x17_3).f0), .int .i64 ((rd_T33 l0_2 x17_3).f1), .int .i64 (wrap64 (((rd_T33 l0_2 x17_3).f2) - x138000_2))] 33 (0, 0)) (by (with_reducible repeat (first | apply blk_drewN | apply blk_drew | apply blk_alloc)); refine blk_put (cs := #[.int .i64 ((rd_T33 l0_2 x17_3).f0), .int .i64 ((rd_T33 l0_2 x17_3).f1), .int .i64 ((rd_T33 l0_2 x17_3).f2)]) ?_ 2 _ rfl; (with_reducible repeat (first | apply blk_drewN | apply blk_drew | apply blk_alloc)); exact BK165.out) hg (Kd.R_away HO_16.out (fun _ hk => hk.2))); have n5_ := Aside0.mk (hb); have n6_ := Aside0.mk (ho); clear HO_6; clear HO_14; clear BK131; clear BK137; clear BK165; clear HB; clear HO_16; have HO_6 := n0_; have HO_14 := n1_; have BK131 := n2_; have BK137 := n3_; have BK165 := n4_; have HB := n5_; have HO168 := n6_; clear n0_ n1_ n2_ n3_ n4_ n5_ n6_; clear ho hb hg hat))
              go_roundg kj142
              case measure => have := HJ3.out; have := HK2.out; have := HK3.out; have := HJ142.out; omega
              case rel => exact ⟨(y166), (wrap64 (x17_3 + 1)), (by first | rfl | (simp; done) | (simp [*]; done)), H', ⟨by have := HJ3.out; have := HK2.out; have := HK3.out; have := HJ142.out; omega⟩, ⟨by (with_reducible repeat (first | apply Kd.S_alloc | apply Kd.S_drewN | apply Kd.S_drew)); exact Kd.S_mono HO_6.out (fun _ hk => ⟨hk.1.1, ⟨hk.2, hk.1.2.1⟩⟩)⟩, ⟨by (with_reducible repeat (first | apply Kd.R_alloc | apply Kd.R_drewN | apply Kd.R_drew)); exact Kd.R_mono HO_14.out (fun _ hk => hk.2)⟩, ⟨by (with_reducible repeat (first | apply Kd.R_alloc | apply Kd.R_drewN | apply Kd.R_drew)); exact Kd.R_mono HO168.out (fun _ hk => hk.1)⟩, ⟨by (with_reducible repeat (first | apply blk_drewN | apply blk_drew | apply blk_alloc)); exact BK131.out⟩, ⟨by (with_reducible repeat (first | apply blk_drewN | apply blk_drew | apply blk_alloc)); exact BK137.out⟩, ⟨by repeat (first | (with_reducible first | exact HB.out | apply below_alloc | apply pw_below_drewN | apply below_drew1 | refine below_set ?_ GE131.out | refine below_set ?_ GE137.out | refine below_set ?_ GE165.out) | exact HB.out)⟩⟩
            as_aux_lemma =>
             rw [if_neg c152] at H
             have c152b0 : (x17_3 == 0) = false := beq_eq_false_iff_ne.mpr c152
             have c152b1 : (x17_3 != 0) = true := bne_iff_ne.mpr c152
             by_cases c187 : x17_3 = 1
             ·as_aux_lemma =>
               rw [if_pos c187] at H
               have c187b0 : (x17_3 == 1) = true := beq_iff_eq.mpr c187
               have c187b1 : (x17_3 != 1) = false := bne_eq_false_iff_eq.mpr c187
               have HEQ_ := Aside0.mk c187
               clear c187
               by_cases c188 : (wrap64 (((rd_T33 l0_2 x17_3).f2) - x138001_2)) < 0
               ·rw [if_pos c188] at H; exact absurd H (by simp)
               rw [if_neg c188] at H
               have c188b0 : decide ((wrap64 (((rd_T33 l0_2 x17_3).f2) - x138001_2)) < 0) = false := decide_eq_false c188
               clear c188
               have Hc199_ := Aside0.mk H
               clear H
               have hnb212 := NB131_137.out
               have hnc212 := NB137_131.out
               have hcz213_0 : wc.cell? ⟨gb131, 0, none⟩ = some (.int .i64 a0_0) := (blk_cell BK131.out 0).trans rfl
               have hcz213_1 : wc.cell? ⟨gb131, 1, none⟩ = some (.int .i64 a0_1) := (blk_cell BK131.out 1).trans rfl
               have hcz213_2 : wc.cell? ⟨gb131, 2, none⟩ = some (.slice A0_2 l0_2.length c0_2) := (blk_cell BK131.out 2).trans rfl
               have hfz213_0 := blk_frozen BK131.out 0
               have hfz213_1 := blk_frozen BK131.out 1
               have hfz213_2 := blk_frozen BK131.out 2
               have p164 : 0 ≤ (x17_3 : Int) := of_decide_eq_true (by first | (with_reducible assumption) | assumption)
               have q164 : x17_3 < (l0_2.length : Int) := of_decide_eq_true (by first | (with_reducible assumption) | assumption)
               obtain ⟨ad164, e164, hx164_0, hx164_1, hx164_2⟩ := at_T33 HR0_2.out x17_3 p164 q164
               cases e164
               replace hx164_0 := (HB.out.cell (World.block_lt_of_cell? w _ hx164_0)).trans hx164_0
               replace hx164_1 := (HB.out.cell (World.block_lt_of_cell? w _ hx164_1)).trans hx164_1
               replace hx164_2 := (HB.out.cell (World.block_lt_of_cell? w _ hx164_2)).trans hx164_2
               replace p164 := eq_true p164
               replace q164 := eq_true q164
               try go_wp2_with (first | ((with_reducible refine gate_dst (N := 18) rfl ?_); (try (refine gate_guard (by rfl) ?_; dsimp only)); refine box_event ?hg (N := 18) ?hd (cs := #[.int .i64 0, .int .i64 0, .int .i64 0]) (t := 33) ?hr ?_; (case hd => rfl); (case hg => rfl); (case hr => first | (go_simp; done) | (go_simp; rfl)); intro gb165 hg w214 hbox hb; have n0_ := Aside0.mk (Kd.S_below (Kd.S_elderB (by (with_reducible repeat (first | apply Kd.S_alloc | apply Kd.S_drewN | apply Kd.S_drew)); exact HO_6.out) gb165 (Nat.le_of_eq hg.symm)) hb); have n1_ := Aside0.mk (Kd.R_below (Kd.R_elderB (by (with_reducible repeat (first | apply Kd.R_alloc | apply Kd.R_drewN | apply Kd.R_drew)); exact HO_14.out) gb165 (Nat.le_of_eq hg.symm)) hb); have n2_ := Aside0.mk (Kd.R_below (Kd.R_elderB (by (with_reducible repeat (first | apply Kd.R_alloc | apply Kd.R_drewN | apply Kd.R_drew)); exact HO_16.out) gb165 (Nat.le_of_eq hg.symm)) hb); have n3_ := Aside0.mk (blk_below (g := gb131) (o := .cells #[.int .i64 a0_0, .int .i64 a0_1, .slice (some ad164) l0_2.length c0_2] 25 (0, 0)) (by (with_reducible repeat (first | apply blk_drewN | apply blk_drew | apply blk_alloc)); exact BK131.out) hb); have n4_ := Aside0.mk (blk_below (g := gb137) (o := .cells #[.int .i64 x138000_2, .int .i64 x138001_2, .int .i64 x138002_2, .int .i64 x138003_2] 41 (0, 0)) (by (with_reducible repeat (first | apply blk_drewN | apply blk_drew | apply blk_alloc)); exact BK137.out) hb); have n5_ := Aside0.mk (below_step (by repeat (first | (with_reducible first | exact HB.out | apply below_alloc | apply pw_below_drewN | apply below_drew1 | refine below_set ?_ GE131.out | refine below_set ?_ GE137.out) | exact HB.out)) hb); have n6_ := Aside0.mk (hbox); have n7_ := Aside0.mk ((by rw [hg]; exact (below_size (by repeat (first | (with_reducible first | exact HB.out | apply below_alloc | apply pw_below_drewN | apply below_drew1 | refine below_set ?_ GE131.out | refine below_set ?_ GE137.out) | exact HB.out))) : w.heap.size ≤ gb165)); have n8_ := Aside0.mk ((by rw [hg]; exact (below_size (by repeat (first | (with_reducible first | exact HB.out | apply below_alloc | apply pw_below_drewN | apply below_drew1 | refine below_set ?_ GE131.out | refine below_set ?_ GE137.out) | exact HB.out))) : w.heap.size ≤ gb165)); have n9_ := Aside0.mk ((by rw [hg]; exact Nat.ne_of_lt (blk_lt (g := gb131) (o := .cells #[.int .i64 a0_0, .int .i64 a0_1, .slice (some ad164) l0_2.length c0_2] 25 (0, 0)) (by (with_reducible repeat (first | apply blk_drewN | apply blk_drew | apply blk_alloc)); exact BK131.out)) : gb131 ≠ gb165)); have n10_ := Aside0.mk ((by rw [hg]; exact Nat.ne_of_gt (blk_lt (g := gb131) (o := .cells #[.int .i64 a0_0, .int .i64 a0_1, .slice (some ad164) l0_2.length c0_2] 25 (0, 0)) (by (with_reducible repeat (first | apply blk_drewN | apply blk_drew | apply blk_alloc)); exact BK131.out)) : gb165 ≠ gb131)); have n11_ := Aside0.mk ((by rw [hg]; exact Nat.ne_of_lt (blk_lt (g := gb137) (o := .cells #[.int .i64 x138000_2, .int .i64 x138001_2, .int .i64 x138002_2, .int .i64 x138003_2] 41 (0, 0)) (by (with_reducible repeat (first | apply blk_drewN | apply blk_drew | apply blk_alloc)); exact BK137.out)) : gb137 ≠ gb165)); have n12_ := Aside0.mk ((by rw [hg]; exact Nat.ne_of_gt (blk_lt (g := gb137) (o := .cells #[.int .i64 x138000_2, .int .i64 x138001_2, .int .i64 x138002_2, .int .i64 x138003_2] 41 (0, 0)) (by (with_reducible repeat (first | apply blk_drewN | apply blk_drew | apply blk_alloc)); exact BK137.out)) : gb165 ≠ gb137)); clear HO_6; clear HO_14; clear HO_16; clear BK131; clear BK137; clear HB; have HO_6 := n0_; have HO_14 := n1_; have HO_16 := n2_; have BK131 := n3_; have BK137 := n4_; have HB := n5_; have BK165 := n6_; have GW165 := n7_; have GE165 := n8_; have NB131_165 := n9_; have NB165_131 := n10_; have NB137_165 := n11_; have NB165_137 := n12_; clear n0_ n1_ n2_ n3_ n4_ n5_ n6_ n7_ n8_ n9_ n10_ n11_ n12_; clear hb hbox hg; have hnb215 := NB165_131.out; have hnc215 := NB131_165.out; have hnb216 := NB165_137.out; have hnc216 := NB137_165.out; have hcz217_0 : w214.cell? ⟨gb165, 0, none⟩ = some (.int .i64 0) := (blk_cell BK165.out 0).trans rfl; have hcz217_1 : w214.cell? ⟨gb165, 1, none⟩ = some (.int .i64 0) := (blk_cell BK165.out 1).trans rfl; have hcz217_2 : w214.cell? ⟨gb165, 2, none⟩ = some (.int .i64 0) := (blk_cell BK165.out 2).trans rfl; have hfz217_0 := blk_frozen BK165.out 0; have hfz217_1 := blk_frozen BK165.out 1; have hfz217_2 := blk_frozen BK165.out 2))
               have n0_ : Aside0 (Kd.S k25 25 (((w214.setCell ⟨gb165, 0, none⟩ (.int .i64 ((rd_T33 l0_2 x17_3).f0))).setCell ⟨gb165, 1, none⟩ (.int .i64 ((rd_T33 l0_2 x17_3).f1))).setCell ⟨gb165, 2, none⟩ (.int .i64 ((rd_T33 l0_2 x17_3).f2))) w.heap.size (fun k_ => some k_ ≠ (v161 : Value).ownBlock ∧ some k_ ≠ (u16 : Value).ownBlock ∧ k_ ≠ gb131 ∧ k_ ≠ gb165) (.slice Ao141 x6_2.length co141) x6_2) := ⟨by (with_reducible repeat (first | apply Kd.S_alloc | apply Kd.S_drewN | apply Kd.S_drew)); exact Kd.S_mono (Kd.S_far (p := ⟨gb165, 2, none⟩) (Kd.S_far (p := ⟨gb165, 1, none⟩) (Kd.S_far (p := ⟨gb165, 0, none⟩) (Kd.S_mono HO_6.out (fun k_ hk => (⟨hk, hk.2⟩ : _ ∧ k_ ≠ gb165))) (fun _ hk => hk.2) (.int .i64 ((rd_T33 l0_2 x17_3).f0))) (fun _ hk => hk.2) (.int .i64 ((rd_T33 l0_2 x17_3).f1))) (fun _ hk => hk.2) (.int .i64 ((rd_T33 l0_2 x17_3).f2))) (fun _ hk => ⟨hk.1.1.1, ⟨hk.1.1.2.1, ⟨hk.1.1.2.2, hk.1.2⟩⟩⟩)⟩
               have n1_ : Aside0 (Kd.R k33 33 (((w214.setCell ⟨gb165, 0, none⟩ (.int .i64 ((rd_T33 l0_2 x17_3).f0))).setCell ⟨gb165, 1, none⟩ (.int .i64 ((rd_T33 l0_2 x17_3).f1))).setCell ⟨gb165, 2, none⟩ (.int .i64 ((rd_T33 l0_2 x17_3).f2))) w.heap.size (fun k_ => some k_ ≠ (u16 : Value).ownBlock ∧ k_ ≠ gb165) v161 t157) := ⟨by (with_reducible repeat (first | apply Kd.R_alloc | apply Kd.R_drewN | apply Kd.R_drew)); exact Kd.R_mono (Kd.R_far (p := ⟨gb165, 2, none⟩) (Kd.R_far (p := ⟨gb165, 1, none⟩) (Kd.R_far (p := ⟨gb165, 0, none⟩) (Kd.R_mono HO_14.out (fun k_ hk => (⟨hk, hk.2⟩ : _ ∧ k_ ≠ gb165))) (fun _ hk => hk.2) (.int .i64 ((rd_T33 l0_2 x17_3).f0))) (fun _ hk => hk.2) (.int .i64 ((rd_T33 l0_2 x17_3).f1))) (fun _ hk => hk.2) (.int .i64 ((rd_T33 l0_2 x17_3).f2))) (fun _ hk => ⟨hk.1.1, hk.1.2⟩)⟩
               have n2_ : Aside0 (Kd.R k33 33 (((w214.setCell ⟨gb165, 0, none⟩ (.int .i64 ((rd_T33 l0_2 x17_3).f0))).setCell ⟨gb165, 1, none⟩ (.int .i64 ((rd_T33 l0_2 x17_3).f1))).setCell ⟨gb165, 2, none⟩ (.int .i64 ((rd_T33 l0_2 x17_3).f2))) w.heap.size (fun k_ => some k_ ≠ (v161 : Value).ownBlock ∧ k_ ≠ gb165) u16 x16_3) := ⟨by (with_reducible repeat (first | apply Kd.R_alloc | apply Kd.R_drewN | apply Kd.R_drew)); exact Kd.R_mono (Kd.R_far (p := ⟨gb165, 2, none⟩) (Kd.R_far (p := ⟨gb165, 1, none⟩) (Kd.R_far (p := ⟨gb165, 0, none⟩) (Kd.R_mono HO_16.out (fun k_ hk => (⟨hk, hk.2⟩ : _ ∧ k_ ≠ gb165))) (fun _ hk => hk.2) (.int .i64 ((rd_T33 l0_2 x17_3).f0))) (fun _ hk => hk.2) (.int .i64 ((rd_T33 l0_2 x17_3).f1))) (fun _ hk => hk.2) (.int .i64 ((rd_T33 l0_2 x17_3).f2))) (fun _ hk => ⟨hk.1.1, hk.1.2⟩)⟩
               have n3_ : Aside0 ((((w214.setCell ⟨gb165, 0, none⟩ (.int .i64 ((rd_T33 l0_2 x17_3).f0))).setCell ⟨gb165, 1, none⟩ (.int .i64 ((rd_T33 l0_2 x17_3).f1))).setCell ⟨gb165, 2, none⟩ (.int .i64 ((rd_T33 l0_2 x17_3).f2))).heap[gb131]? = some (.cells #[.int .i64 a0_0, .int .i64 a0_1, .slice (some ad164) l0_2.length c0_2] 25 (0, 0))) := ⟨by (with_reducible repeat (first | apply blk_drewN | apply blk_drew | apply blk_alloc)); refine blk_far ?_ NB131_165.out _; (with_reducible repeat (first | apply blk_drewN | apply blk_drew | apply blk_alloc)); refine blk_far ?_ NB131_165.out _; (with_reducible repeat (first | apply blk_drewN | apply blk_drew | apply blk_alloc)); refine blk_far ?_ NB131_165.out _; (with_reducible repeat (first | apply blk_drewN | apply blk_drew | apply blk_alloc)); exact BK131.out⟩
               have n4_ : Aside0 ((((w214.setCell ⟨gb165, 0, none⟩ (.int .i64 ((rd_T33 l0_2 x17_3).f0))).setCell ⟨gb165, 1, none⟩ (.int .i64 ((rd_T33 l0_2 x17_3).f1))).setCell ⟨gb165, 2, none⟩ (.int .i64 ((rd_T33 l0_2 x17_3).f2))).heap[gb137]? = some (.cells #[.int .i64 x138000_2, .int .i64 x138001_2, .int .i64 x138002_2, .int .i64 x138003_2] 41 (0, 0))) := ⟨by (with_reducible repeat (first | apply blk_drewN | apply blk_drew | apply blk_alloc)); refine blk_far ?_ NB137_165.out _; (with_reducible repeat (first | apply blk_drewN | apply blk_drew | apply blk_alloc)); refine blk_far ?_ NB137_165.out _; (with_reducible repeat (first | apply blk_drewN | apply blk_drew | apply blk_alloc)); refine blk_far ?_ NB137_165.out _; (with_reducible repeat (first | apply blk_drewN | apply blk_drew | apply blk_alloc)); exact BK137.out⟩
               have n5_ : Aside0 ((((w214.setCell ⟨gb165, 0, none⟩ (.int .i64 ((rd_T33 l0_2 x17_3).f0))).setCell ⟨gb165, 1, none⟩ (.int .i64 ((rd_T33 l0_2 x17_3).f1))).setCell ⟨gb165, 2, none⟩ (.int .i64 ((rd_T33 l0_2 x17_3).f2))).heap[gb165]? = some (.cells #[.int .i64 ((rd_T33 l0_2 x17_3).f0), .int .i64 ((rd_T33 l0_2 x17_3).f1), .int .i64 ((rd_T33 l0_2 x17_3).f2)] 33 (0, 0))) := ⟨by (with_reducible repeat (first | apply blk_drewN | apply blk_drew | apply blk_alloc)); refine blk_put (cs := #[.int .i64 ((rd_T33 l0_2 x17_3).f0), .int .i64 ((rd_T33 l0_2 x17_3).f1), .int .i64 0]) ?_ 2 _ rfl; (with_reducible repeat (first | apply blk_drewN | apply blk_drew | apply blk_alloc)); refine blk_put (cs := #[.int .i64 ((rd_T33 l0_2 x17_3).f0), .int .i64 0, .int .i64 0]) ?_ 1 _ rfl; (with_reducible repeat (first | apply blk_drewN | apply blk_drew | apply blk_alloc)); refine blk_put (cs := #[.int .i64 0, .int .i64 0, .int .i64 0]) ?_ 0 _ rfl; (with_reducible repeat (first | apply blk_drewN | apply blk_drew | apply blk_alloc)); exact BK165.out⟩
               have n6_ : Aside0 (Below w.heap.size w (((w214.setCell ⟨gb165, 0, none⟩ (.int .i64 ((rd_T33 l0_2 x17_3).f0))).setCell ⟨gb165, 1, none⟩ (.int .i64 ((rd_T33 l0_2 x17_3).f1))).setCell ⟨gb165, 2, none⟩ (.int .i64 ((rd_T33 l0_2 x17_3).f2)))) := ⟨by repeat (first | (with_reducible first | exact HB.out | apply below_alloc | apply pw_below_drewN | apply below_drew1 | refine below_set ?_ GE131.out | refine below_set ?_ GE137.out | refine below_set ?_ GE165.out) | exact HB.out)⟩
               (try clear HO_6); (try clear HO_14); (try clear HO_16); (try clear BK131); (try clear BK137); (try clear BK165); (try clear HB)
               generalize (((w214.setCell ⟨gb165, 0, none⟩ (.int .i64 ((rd_T33 l0_2 x17_3).f0))).setCell ⟨gb165, 1, none⟩ (.int .i64 ((rd_T33 l0_2 x17_3).f1))).setCell ⟨gb165, 2, none⟩ (.int .i64 ((rd_T33 l0_2 x17_3).f2))) = w218 at n0_ n1_ n2_ n3_ n4_ n5_ n6_ ⊢
               have HO_6 := n0_; have HO_14 := n1_; have HO_16 := n2_; have BK131 := n3_; have BK137 := n4_; have BK165 := n5_; have HB := n6_
               clear n0_ n1_ n2_ n3_ n4_ n5_ n6_
               have n0_ := Aside0.mk (Kd.S_drew HO_6.out)
               have n1_ := Aside0.mk (Kd.R_drew HO_14.out)
               have n2_ := Aside0.mk (Kd.R_drew HO_16.out)
               have n3_ := Aside0.mk (blk_drew BK131.out)
               have n4_ := Aside0.mk (blk_drew BK137.out)
               have n5_ := Aside0.mk (blk_drew BK165.out)
               have n6_ := Aside0.mk (below_drew1 HB.out)
               clear HO_6 HO_14 HO_16 BK131 BK137 BK165 HB
               have HO_6 := n0_; have HO_14 := n1_; have HO_16 := n2_; have BK131 := n3_; have BK137 := n4_; have BK165 := n5_; have HB := n6_
               clear n0_ n1_ n2_ n3_ n4_ n5_ n6_
               refine start_ (n := 8) (S := fun w' => w'.cell? ⟨gb165, 0, none⟩ = some (.int .i64 ((rd_T33 l0_2 x17_3).f0)) ∧ w'.cell? ⟨gb165, 1, none⟩ = some (.int .i64 ((rd_T33 l0_2 x17_3).f1)) ∧ w'.cell? ⟨gb165, 2, none⟩ = some (.int .i64 ((rd_T33 l0_2 x17_3).f2)) ∧ w'.cell? ⟨gb137, 0, none⟩ = some (.int .i64 x138000_2) ∧ w'.cell? ⟨gb137, 1, none⟩ = some (.int .i64 x138001_2) ∧ w'.cell? ⟨gb137, 2, none⟩ = some (.int .i64 x138002_2) ∧ w'.cell? ⟨gb137, 3, none⟩ = some (.int .i64 x138003_2)) (ds := [7]) #[ff, ff, ff, ff, ff, ff, ff, ff] (by kernel_rfl) rfl rfl ⟨(blk_cell BK165.out 0).trans rfl, (blk_cell BK165.out 1).trans rfl, (blk_cell BK165.out 2).trans rfl, (blk_cell BK137.out 0).trans rfl, (blk_cell BK137.out 1).trans rfl, (blk_cell BK137.out 2).trans rfl, (blk_cell BK137.out 3).trans rfl⟩ (fun hHeld => ?_); refine with_tabW lawAll.tab23 lawAll.bits23 (fun HT_ HW_ => ?_)
               generalize w218.drew = w219 at HO_6 HO_14 HO_16 BK131 BK137 BK165 HB hHeld ⊢
               refine pure_ (i := 0) (N := some 165) (v := ?_) (a' := ?_) #[tt, ff, ff, ff, ff, ff, ff, ff] rfl rfl (any_of HT_.out (by kernel_rfl)) (fun _ _ _ h => h) (Or.inl ⟨by rfl, ?_⟩) ?_ ?_
               rotate_left; (· intro w'; go_simp; with_reducible rfl); rotate_left; (· simp only [Act.put, sA, sB, sC, i64_w, i32_w]; rfl)
               refine pure_ (i := 2) (N := some 167) (v := ?_) (a' := ?_) #[tt, ff, tt, ff, ff, ff, ff, ff] rfl rfl (any_of HT_.out (by kernel_rfl)) (fun _ _ _ h => h) (Or.inl ⟨by rfl, ?_⟩) ?_ ?_
               rotate_left; (· intro w'; go_simp; with_reducible rfl); rotate_left; (· simp only [Act.put, sA, sB, sC, i64_w, i32_w]; rfl)
               have cE_ := HEQ_.out
               refine pure_ (i := 3) (N := some 168) (v := ?_) (a' := ?_) #[tt, ff, tt, tt, ff, ff, ff, ff] rfl rfl (any_of HT_.out (by kernel_rfl)) (fun _ _ _ h => h) (Or.inl ⟨by rfl, ?_⟩) ?_ ?_
               rotate_left; (· intro w'; go_simp; with_reducible rfl); rotate_left; (· simp only [Act.put, sA, sB, sC, i64_w, i32_w]; rfl)
               clear cE_
               refine take_ (i := 1) (N := some 166) (v := ?_) (a' := ?_) #[tt, tt, tt, tt, ff, ff, ff, ff] rfl rfl (take_ofW HT_.out HW_.out (by kernel_rfl)) (fun _ _ _ h => h) (Or.inl ⟨by rfl, ?_⟩) hHeld ?_ ?_
               rotate_left; (· rintro w' ⟨s0, s1, s2, s3, s4, s5, s6⟩; go_simp; with_reducible rfl); rotate_left; (· simp only [Act.put, sA, sB, sC, i64_w, i32_w]; rfl)
               refine take_ (i := 4) (N := some 169) (v := ?_) (a' := ?_) #[tt, tt, tt, tt, tt, ff, ff, ff] rfl rfl (take_ofW HT_.out HW_.out (by kernel_rfl)) (fun _ _ _ h => h) (Or.inl ⟨by rfl, ?_⟩) hHeld ?_ ?_
               rotate_left; (· rintro w' ⟨s0, s1, s2, s3, s4, s5, s6⟩; go_simp; with_reducible rfl); rotate_left; (· simp only [Act.put, sA, sB, sC, i64_w, i32_w]; rfl)
               refine pure_ (i := 5) (N := some 170) (v := ?_) (a' := ?_) #[tt, tt, tt, tt, tt, tt, ff, ff] rfl rfl (any_of HT_.out (by kernel_rfl)) (fun _ _ _ h => h) (Or.inl ⟨by rfl, ?_⟩) ?_ ?_
               rotate_left; (· intro w'; go_simp; with_reducible rfl); rotate_left; (· simp only [Act.put, sA, sB, sC, i64_w, i32_w]; rfl)
               refine pure_ (i := 6) (N := some 171) (v := ?_) (a' := ?_) #[tt, tt, tt, tt, tt, tt, tt, ff] rfl rfl (any_of HT_.out (by kernel_rfl)) (fun _ _ _ h => h) (Or.inl ⟨by rfl, ?_⟩) ?_ ?_
               rotate_left; (· intro w'; go_simp; with_reducible rfl); rotate_left; (· simp only [Act.put, sA, sB, sC, i64_w, i32_w]; rfl)
               refine last_ (i := 7) (N := none) #[tt, tt, tt, tt, tt, tt, tt, tt] rfl rfl (one_of HT_.out (by kernel_rfl)) (by decide) (fun K hK => ?_)
               have hs220 : w219.cell? ⟨gb165, 2, none⟩ = some (.int .i64 ((rd_T33 l0_2 x17_3).f2)) := (blk_cell BK165.out 2).trans rfl
               have hfs220 := blk_frozen BK165.out 2
               have hns220_0 := NB131_165.out
               have hns220_1 := NB137_165.out
               have hms220_0 := NB165_131.out
               have hms220_1 := NB165_137.out
               refine skip_ (w1 := ?_) (by rfl) rfl ?_ ?_
               rotate_left
               ·go_simp
                rfl
               refine hK.out _ _ ?_
               clear hK K
               refine done_ (done_of HT_.out (by kernel_rfl)) ?_
               have H := Hc199_.out
               clear Hc199_
               by_cases c199 : (wrap64 (((rd_T33 l0_2 x17_3).f2) - x138001_2)) > 0
               rotate_left
               ·rw [if_neg c199] at H
                have c199b0 : decide (0 < (wrap64 (((rd_T33 l0_2 x17_3).f2) - x138001_2))) = false := decide_eq_false c199
                clear c199
                have H' := Aside0.mk H
                clear H
                have hcz221_0 : w219.cell? ⟨gb165, 0, none⟩ = some (.int .i64 ((rd_T33 l0_2 x17_3).f0)) := (blk_cell BK165.out 0).trans rfl
                have hcz221_1 : w219.cell? ⟨gb165, 1, none⟩ = some (.int .i64 ((rd_T33 l0_2 x17_3).f1)) := (blk_cell BK165.out 1).trans rfl
                have hcz221_2 : w219.cell? ⟨gb165, 2, none⟩ = some (.int .i64 ((rd_T33 l0_2 x17_3).f2)) := (blk_cell BK165.out 2).trans rfl
                have hfz221_0 := blk_frozen BK165.out 0
                have hfz221_1 := blk_frozen BK165.out 1
                have hfz221_2 := blk_frozen BK165.out 2
                try go_wp2
                go_roundg kj142
                case measure => have := HJ3.out; have := HK2.out; have := HK3.out; have := HJ142.out; omega
                case rel => exact ⟨(x16_3), (wrap64 (x17_3 + 1)), (by first | rfl | (simp; done) | (simp [*]; done)), H', ⟨by have := HJ3.out; have := HK2.out; have := HK3.out; have := HJ142.out; omega⟩, ⟨by (with_reducible repeat (first | apply Kd.S_alloc | apply Kd.S_drewN | apply Kd.S_drew)); exact Kd.S_mono (Kd.S_far (p := ⟨gb165, 2, none⟩) (Kd.S_mono HO_6.out (fun k_ hk => (⟨hk, hk.2.2.2⟩ : _ ∧ k_ ≠ gb165))) (fun _ hk => hk.2) (.int .i64 (wrap64 (((rd_T33 l0_2 x17_3).f2) - x138001_2)))) (fun _ hk => ⟨hk.1.1, ⟨hk.1.2.1, hk.1.2.2.1⟩⟩)⟩, ⟨by (with_reducible repeat (first | apply Kd.R_alloc | apply Kd.R_drewN | apply Kd.R_drew)); exact Kd.R_mono (Kd.R_far (p := ⟨gb165, 2, none⟩) (Kd.R_mono HO_14.out (fun k_ hk => (⟨hk, hk.2⟩ : _ ∧ k_ ≠ gb165))) (fun _ hk => hk.2) (.int .i64 (wrap64 (((rd_T33 l0_2 x17_3).f2) - x138001_2)))) (fun _ hk => hk.1.1)⟩, ⟨by (with_reducible repeat (first | apply Kd.R_alloc | apply Kd.R_drewN | apply Kd.R_drew)); exact Kd.R_mono (Kd.R_far (p := ⟨gb165, 2, none⟩) (Kd.R_mono HO_16.out (fun k_ hk => (⟨hk, hk.2⟩ : _ ∧ k_ ≠ gb165))) (fun _ hk => hk.2) (.int .i64 (wrap64 (((rd_T33 l0_2 x17_3).f2) - x138001_2)))) (fun _ hk => hk.1.1)⟩, ⟨by (with_reducible repeat (first | apply blk_drewN | apply blk_drew | apply blk_alloc)); refine blk_far ?_ NB131_165.out _; (with_reducible repeat (first | apply blk_drewN | apply blk_drew | apply blk_alloc)); exact BK131.out⟩, ⟨by (with_reducible repeat (first | apply blk_drewN | apply blk_drew | apply blk_alloc)); refine blk_far ?_ NB137_165.out _; (with_reducible repeat (first | apply blk_drewN | apply blk_drew | apply blk_alloc)); exact BK137.out⟩, ⟨by repeat (first | (with_reducible first | exact HB.out | apply below_alloc | apply pw_below_drewN | apply below_drew1 | refine below_set ?_ GE131.out | refine below_set ?_ GE137.out | refine below_set ?_ GE165.out) | exact HB.out)⟩⟩
               rw [if_pos c199] at H
               have c199b0 : decide (0 < (wrap64 (((rd_T33 l0_2 x17_3).f2) - x138001_2))) = true := decide_eq_true c199
               clear c199
               by_cases c200 : x16_3.length < 5864062014805
               rotate_left
               ·rw [if_neg c200] at H; exact absurd H (by simp)
               rw [if_pos c200] at H
               have LMc200 := Aside0.mk c200
               clear c200
               obtain ⟨y169, hy169⟩ : ∃ y_ : List (S33), y_ = (x16_3 ++ [(⟨(rd_T33 l0_2 x17_3).f0, (rd_T33 l0_2 x17_3).f1, wrap64 (((rd_T33 l0_2 x17_3).f2) - x138001_2)⟩ : S33)]) := ⟨_, rfl⟩
               replace H : (lawAll.l1 kj142 x6_2 t157 t158 y169 (wrap64 (x17_3 + 1)) a0_0 a0_1 l0_2 x138000_2 x138001_2 x138002_2 x138003_2) = some r := by first | (rw [hy169]; with_reducible exact H) | (have H2_ := (Option.bind_some _ _).symm.trans H; rw [hy169]; with_reducible exact H2_) | (have H2_ := (Option.bind_some _ _).symm.trans H; with_reducible exact H2_) | with_reducible exact H | (rw [hy169]; exact H) | exact H
               have Ny169 := Aside0.mk hy169
               clear hy169
               have H' := Aside0.mk H
               clear H
               have hcz210_0 : w219.cell? ⟨gb165, 0, none⟩ = some (.int .i64 ((rd_T33 l0_2 x17_3).f0)) := (blk_cell BK165.out 0).trans rfl
               have hcz210_1 : w219.cell? ⟨gb165, 1, none⟩ = some (.int .i64 ((rd_T33 l0_2 x17_3).f1)) := (blk_cell BK165.out 1).trans rfl
               have hcz210_2 : w219.cell? ⟨gb165, 2, none⟩ = some (.int .i64 ((rd_T33 l0_2 x17_3).f2)) := (blk_cell BK165.out 2).trans rfl
               have hfz210_0 := blk_frozen BK165.out 0
               have hfz210_1 := blk_frozen BK165.out 1
               have hfz210_2 := blk_frozen BK165.out 2
               try go_wp2_with (first | ((with_reducible refine gate_builtin (b := .append) (xs := #[.tmp 178, .tmp 180]) rfl ?_); (try (refine gate_guard (by rfl) ?_; dsimp only)); at_builtin; refine Kd.R_append k33 (w0 := w) w.heap.size rfl (.tmp 178) (.tmp 180) 23 33 (.agg #[(.int .i64 0), (.int .i64 0), (.int .i64 0)]) 24 rfl Try.underlying23 info33 rfl (by decide) (by omega) u16 x16_3 (⟨(rd_T33 l0_2 x17_3).f0, (rd_T33 l0_2 x17_3).f1, wrap64 (((rd_T33 l0_2 x17_3).f2) - x138001_2)⟩ : S33) [.int .i64 ((rd_T33 l0_2 x17_3).f0), .int .i64 ((rd_T33 l0_2 x17_3).f1), .int .i64 (wrap64 (((rd_T33 l0_2 x17_3).f2) - x138001_2))] (fun k_ => some k_ ≠ (v161 : Value).ownBlock ∧ k_ ≠ gb165) (fun _ => False) rfl (by first | (go_simp; done) | (go_simp; rfl)) ?aP (fun _ hk => hk.elim) ?aF ?aO ?aB ?aS ?aL ?_; (case aP => exact k33_mkM _ _ _ (⟨(rd_T33 l0_2 x17_3).f0, (rd_T33 l0_2 x17_3).f1, wrap64 (((rd_T33 l0_2 x17_3).f2) - x138001_2)⟩ : S33)); (case aB => exact (by repeat (first | (with_reducible first | exact HB.out | apply below_alloc | apply pw_below_drewN | apply below_drew1 | refine below_set ?_ GE131.out | refine below_set ?_ GE137.out | refine below_set ?_ GE165.out) | exact HB.out))); (case aF => exact (fun k_ hk => ⟨Kd.fresh' (Kd.R_lt (by (with_reducible repeat (first | apply Kd.R_alloc | apply Kd.R_drewN | apply Kd.R_drew)); exact (Kd.R_mono (Kd.R_far (p := ⟨gb165, 2, none⟩) (Kd.R_mono HO_14.out (fun k_ hk => (⟨hk, hk.2⟩ : _ ∧ k_ ≠ gb165))) (fun _ hk => hk.2) (.int .i64 (wrap64 (((rd_T33 l0_2 x17_3).f2) - x138001_2)))) (fun _ h_ => h_.1)))) k_ hk, Kd.freshB (g := gb165) (o := .cells #[.int .i64 ((rd_T33 l0_2 x17_3).f0), .int .i64 ((rd_T33 l0_2 x17_3).f1), .int .i64 (wrap64 (((rd_T33 l0_2 x17_3).f2) - x138001_2))] 33 (0, 0)) (by (with_reducible repeat (first | apply blk_drewN | apply blk_drew | apply blk_alloc)); refine blk_put (cs := #[.int .i64 ((rd_T33 l0_2 x17_3).f0), .int .i64 ((rd_T33 l0_2 x17_3).f1), .int .i64 ((rd_T33 l0_2 x17_3).f2)]) ?_ 2 _ rfl; (with_reducible repeat (first | apply blk_drewN | apply blk_drew | apply blk_alloc)); exact BK165.out) k_ hk⟩)); (case aO => exact (by (with_reducible repeat (first | apply Kd.R_alloc | apply Kd.R_drewN | apply Kd.R_drew)); exact Kd.R_mono (Kd.R_far (p := ⟨gb165, 2, none⟩) (Kd.R_mono HO_16.out (fun k_ hk => (⟨hk, hk.2⟩ : _ ∧ k_ ≠ gb165))) (fun _ hk => hk.2) (.int .i64 (wrap64 (((rd_T33 l0_2 x17_3).f2) - x138001_2)))) (fun _ hk => ⟨hk.1.1, hk.1.2⟩))); (case aS => exact (below_size (by repeat (first | (with_reducible first | exact HB.out | apply below_alloc | apply pw_below_drewN | apply below_drew1 | refine below_set ?_ GE131.out | refine below_set ?_ GE137.out | refine below_set ?_ GE165.out) | exact HB.out)))); (case aL => have := LMc200.out; omega); intro v170 w211 ho hb hg hat; rw [← Ny169.out] at ho; have n0_ := Aside0.mk (Kd.S_after (ok := (fun k_ => some k_ ≠ (v161 : Value).ownBlock ∧ k_ ≠ gb131 ∧ k_ ≠ gb165)) (by (with_reducible repeat (first | apply Kd.S_alloc | apply Kd.S_drewN | apply Kd.S_drew)); exact Kd.S_mono (Kd.S_far (p := ⟨gb165, 2, none⟩) (Kd.S_mono HO_6.out (fun k_ hk => (⟨hk, hk.2.2.2⟩ : _ ∧ k_ ≠ gb165))) (fun _ hk => hk.2) (.int .i64 (wrap64 (((rd_T33 l0_2 x17_3).f2) - x138001_2)))) (fun _ hk => ⟨⟨hk.1.1, ⟨hk.1.2.2.1, hk.1.2.2.2⟩⟩, hk.1.2.1⟩)) hg hat); have n1_ := Aside0.mk (Kd.R_after (ok := (fun k_ => k_ ≠ gb165)) (by (with_reducible repeat (first | apply Kd.R_alloc | apply Kd.R_drewN | apply Kd.R_drew)); exact Kd.R_mono (Kd.R_far (p := ⟨gb165, 2, none⟩) (Kd.R_mono HO_14.out (fun k_ hk => (⟨hk, hk.2⟩ : _ ∧ k_ ≠ gb165))) (fun _ hk => hk.2) (.int .i64 (wrap64 (((rd_T33 l0_2 x17_3).f2) - x138001_2)))) (fun _ hk => ⟨hk.1.2, hk.1.1⟩)) hg hat); have n2_ := Aside0.mk (blk_grown (g := gb131) (o := .cells #[.int .i64 a0_0, .int .i64 a0_1, .slice (some ad164) l0_2.length c0_2] 25 (0, 0)) (by (with_reducible repeat (first | apply blk_drewN | apply blk_drew | apply blk_alloc)); refine blk_far ?_ NB131_165.out _; (with_reducible repeat (first | apply blk_drewN | apply blk_drew | apply blk_alloc)); exact BK131.out) hg (Kd.R_ne HO_16.out BK131.out (by decide))); have n3_ := Aside0.mk (blk_grown (g := gb137) (o := .cells #[.int .i64 x138000_2, .int .i64 x138001_2, .int .i64 x138002_2, .int .i64 x138003_2] 41 (0, 0)) (by (with_reducible repeat (first | apply blk_drewN | apply blk_drew | apply blk_alloc)); refine blk_far ?_ NB137_165.out _; (with_reducible repeat (first | apply blk_drewN | apply blk_drew | apply blk_alloc)); exact BK137.out) hg (Kd.R_ne HO_16.out BK137.out (by decide))); have n4_ := Aside0.mk (blk_grown (g := gb165) (o := .cells #[.int .i64 ((rd_T33 l0_2 x17_3).f0), .int .i64 ((rd_T33 l0_2 x17_3).f1), .int .i64 (wrap64 (((rd_T33 l0_2 x17_3).f2) - x138001_2))] 33 (0, 0)) (by (with_reducible repeat (first | apply blk_drewN | apply blk_drew | apply blk_alloc)); refine blk_put (cs := #[.int .i64 ((rd_T33 l0_2 x17_3).f0), .int .i64 ((rd_T33 l0_2 x17_3).f1), .int .i64 ((rd_T33 l0_2 x17_3).f2)]) ?_ 2 _ rfl; (with_reducible repeat (first | apply blk_drewN | apply blk_drew | apply blk_alloc)); exact BK165.out) hg (Kd.R_away HO_16.out (fun _ hk => hk.2))); have n5_ := Aside0.mk (hb); have n6_ := Aside0.mk (ho); clear HO_6; clear HO_14; clear BK131; clear BK137; clear BK165; clear HB; clear HO_16; have HO_6 := n0_; have HO_14 := n1_; have BK131 := n2_; have BK137 := n3_; have BK165 := n4_; have HB := n5_; have HO171 := n6_; clear n0_ n1_ n2_ n3_ n4_ n5_ n6_; clear ho hb hg hat))
               go_roundg kj142
               case measure => have := HJ3.out; have := HK2.out; have := HK3.out; have := HJ142.out; omega
               case rel => exact ⟨(y169), (wrap64 (x17_3 + 1)), (by first | rfl | (simp; done) | (simp [*]; done)), H', ⟨by have := HJ3.out; have := HK2.out; have := HK3.out; have := HJ142.out; omega⟩, ⟨by (with_reducible repeat (first | apply Kd.S_alloc | apply Kd.S_drewN | apply Kd.S_drew)); exact Kd.S_mono HO_6.out (fun _ hk => ⟨hk.1.1, ⟨hk.2, hk.1.2.1⟩⟩)⟩, ⟨by (with_reducible repeat (first | apply Kd.R_alloc | apply Kd.R_drewN | apply Kd.R_drew)); exact Kd.R_mono HO_14.out (fun _ hk => hk.2)⟩, ⟨by (with_reducible repeat (first | apply Kd.R_alloc | apply Kd.R_drewN | apply Kd.R_drew)); exact Kd.R_mono HO171.out (fun _ hk => hk.1)⟩, ⟨by (with_reducible repeat (first | apply blk_drewN | apply blk_drew | apply blk_alloc)); exact BK131.out⟩, ⟨by (with_reducible repeat (first | apply blk_drewN | apply blk_drew | apply blk_alloc)); exact BK137.out⟩, ⟨by repeat (first | (with_reducible first | exact HB.out | apply below_alloc | apply pw_below_drewN | apply below_drew1 | refine below_set ?_ GE131.out | refine below_set ?_ GE137.out | refine below_set ?_ GE165.out) | exact HB.out)⟩⟩
             as_aux_lemma =>
              rw [if_neg c187] at H
              have c187b0 : (x17_3 == 1) = false := beq_eq_false_iff_ne.mpr c187
              have c187b1 : (x17_3 != 1) = true := bne_iff_ne.mpr c187
              by_cases c222 : x17_3 = 2
              ·as_aux_lemma =>
                rw [if_pos c222] at H
                have c222b0 : (x17_3 == 2) = true := beq_iff_eq.mpr c222
                have c222b1 : (x17_3 != 2) = false := bne_eq_false_iff_eq.mpr c222
                have HEQ_ := Aside0.mk c222
                clear c222
                by_cases c223 : (wrap64 (((rd_T33 l0_2 x17_3).f2) - x138002_2)) < 0
                ·rw [if_pos c223] at H; exact absurd H (by simp)
                rw [if_neg c223] at H
                have c223b0 : decide ((wrap64 (((rd_T33 l0_2 x17_3).f2) - x138002_2)) < 0) = false := decide_eq_false c223
                clear c223
                have Hc234_ := Aside0.mk H
                clear H
                have hnb247 := NB131_137.out
                have hnc247 := NB137_131.out
                have hcz248_0 : wc.cell? ⟨gb131, 0, none⟩ = some (.int .i64 a0_0) := (blk_cell BK131.out 0).trans rfl
                have hcz248_1 : wc.cell? ⟨gb131, 1, none⟩ = some (.int .i64 a0_1) := (blk_cell BK131.out 1).trans rfl
                have hcz248_2 : wc.cell? ⟨gb131, 2, none⟩ = some (.slice A0_2 l0_2.length c0_2) := (blk_cell BK131.out 2).trans rfl
                have hfz248_0 := blk_frozen BK131.out 0
                have hfz248_1 := blk_frozen BK131.out 1
                have hfz248_2 := blk_frozen BK131.out 2
                have p164 : 0 ≤ (x17_3 : Int) := of_decide_eq_true (by first | (with_reducible assumption) | assumption)
                have q164 : x17_3 < (l0_2.length : Int) := of_decide_eq_true (by first | (with_reducible assumption) | assumption)
                obtain ⟨ad164, e164, hx164_0, hx164_1, hx164_2⟩ := at_T33 HR0_2.out x17_3 p164 q164
                cases e164
                replace hx164_0 := (HB.out.cell (World.block_lt_of_cell? w _ hx164_0)).trans hx164_0
                replace hx164_1 := (HB.out.cell (World.block_lt_of_cell? w _ hx164_1)).trans hx164_1
                replace hx164_2 := (HB.out.cell (World.block_lt_of_cell? w _ hx164_2)).trans hx164_2
                replace p164 := eq_true p164
                replace q164 := eq_true q164
                try go_wp2_with (first | ((with_reducible refine gate_dst (N := 18) rfl ?_); (try (refine gate_guard (by rfl) ?_; dsimp only)); refine box_event ?hg (N := 18) ?hd (cs := #[.int .i64 0, .int .i64 0, .int .i64 0]) (t := 33) ?hr ?_; (case hd => rfl); (case hg => rfl); (case hr => first | (go_simp; done) | (go_simp; rfl)); intro gb165 hg w249 hbox hb; have n0_ := Aside0.mk (Kd.S_below (Kd.S_elderB (by (with_reducible repeat (first | apply Kd.S_alloc | apply Kd.S_drewN | apply Kd.S_drew)); exact HO_6.out) gb165 (Nat.le_of_eq hg.symm)) hb); have n1_ := Aside0.mk (Kd.R_below (Kd.R_elderB (by (with_reducible repeat (first | apply Kd.R_alloc | apply Kd.R_drewN | apply Kd.R_drew)); exact HO_14.out) gb165 (Nat.le_of_eq hg.symm)) hb); have n2_ := Aside0.mk (Kd.R_below (Kd.R_elderB (by (with_reducible repeat (first | apply Kd.R_alloc | apply Kd.R_drewN | apply Kd.R_drew)); exact HO_16.out) gb165 (Nat.le_of_eq hg.symm)) hb); have n3_ := Aside0.mk (blk_below (g := gb131) (o := .cells #[.int .i64 a0_0, .int .i64 a0_1, .slice (some ad164) l0_2.length c0_2] 25 (0, 0)) (by (with_reducible repeat (first | apply blk_drewN | apply blk_drew | apply blk_alloc)); exact BK131.out) hb); have n4_ := Aside0.mk (blk_below (g := gb137) (o := .cells #[.int .i64 x138000_2, .int .i64 x138001_2, .int .i64 x138002_2, .int .i64 x138003_2] 41 (0, 0)) (by (with_reducible repeat (first | apply blk_drewN | apply blk_drew | apply blk_alloc)); exact BK137.out) hb); have n5_ := Aside0.mk (below_step (by repeat (first | (with_reducible first | exact HB.out | apply below_alloc | apply pw_below_drewN | apply below_drew1 | refine below_set ?_ GE131.out | refine below_set ?_ GE137.out) | exact HB.out)) hb); have n6_ := Aside0.mk (hbox); have n7_ := Aside0.mk ((by rw [hg]; exact (below_size (by repeat (first | (with_reducible first | exact HB.out | apply below_alloc | apply pw_below_drewN | apply below_drew1 | refine below_set ?_ GE131.out | refine below_set ?_ GE137.out) | exact HB.out))) : w.heap.size ≤ gb165)); have n8_ := Aside0.mk ((by rw [hg]; exact (below_size (by repeat (first | (with_reducible first | exact HB.out | apply below_alloc | apply pw_below_drewN | apply below_drew1 | refine below_set ?_ GE131.out | refine below_set ?_ GE137.out) | exact HB.out))) : w.heap.size ≤ gb165)); have n9_ := Aside0.mk ((by rw [hg]; exact Nat.ne_of_lt (blk_lt (g := gb131) (o := .cells #[.int .i64 a0_0, .int .i64 a0_1, .slice (some ad164) l0_2.length c0_2] 25 (0, 0)) (by (with_reducible repeat (first | apply blk_drewN | apply blk_drew | apply blk_alloc)); exact BK131.out)) : gb131 ≠ gb165)); have n10_ := Aside0.mk ((by rw [hg]; exact Nat.ne_of_gt (blk_lt (g := gb131) (o := .cells #[.int .i64 a0_0, .int .i64 a0_1, .slice (some ad164) l0_2.length c0_2] 25 (0, 0)) (by (with_reducible repeat (first | apply blk_drewN | apply blk_drew | apply blk_alloc)); exact BK131.out)) : gb165 ≠ gb131)); have n11_ := Aside0.mk ((by rw [hg]; exact Nat.ne_of_lt (blk_lt (g := gb137) (o := .cells #[.int .i64 x138000_2, .int .i64 x138001_2, .int .i64 x138002_2, .int .i64 x138003_2] 41 (0, 0)) (by (with_reducible repeat (first | apply blk_drewN | apply blk_drew | apply blk_alloc)); exact BK137.out)) : gb137 ≠ gb165)); have n12_ := Aside0.mk ((by rw [hg]; exact Nat.ne_of_gt (blk_lt (g := gb137) (o := .cells #[.int .i64 x138000_2, .int .i64 x138001_2, .int .i64 x138002_2, .int .i64 x138003_2] 41 (0, 0)) (by (with_reducible repeat (first | apply blk_drewN | apply blk_drew | apply blk_alloc)); exact BK137.out)) : gb165 ≠ gb137)); clear HO_6; clear HO_14; clear HO_16; clear BK131; clear BK137; clear HB; have HO_6 := n0_; have HO_14 := n1_; have HO_16 := n2_; have BK131 := n3_; have BK137 := n4_; have HB := n5_; have BK165 := n6_; have GW165 := n7_; have GE165 := n8_; have NB131_165 := n9_; have NB165_131 := n10_; have NB137_165 := n11_; have NB165_137 := n12_; clear n0_ n1_ n2_ n3_ n4_ n5_ n6_ n7_ n8_ n9_ n10_ n11_ n12_; clear hb hbox hg; have hnb250 := NB165_131.out; have hnc250 := NB131_165.out; have hnb251 := NB165_137.out; have hnc251 := NB137_165.out; have hcz252_0 : w249.cell? ⟨gb165, 0, none⟩ = some (.int .i64 0) := (blk_cell BK165.out 0).trans rfl; have hcz252_1 : w249.cell? ⟨gb165, 1, none⟩ = some (.int .i64 0) := (blk_cell BK165.out 1).trans rfl; have hcz252_2 : w249.cell? ⟨gb165, 2, none⟩ = some (.int .i64 0) := (blk_cell BK165.out 2).trans rfl; have hfz252_0 := blk_frozen BK165.out 0; have hfz252_1 := blk_frozen BK165.out 1; have hfz252_2 := blk_frozen BK165.out 2))
                have n0_ : Aside0 (Kd.S k25 25 (((w249.setCell ⟨gb165, 0, none⟩ (.int .i64 ((rd_T33 l0_2 x17_3).f0))).setCell ⟨gb165, 1, none⟩ (.int .i64 ((rd_T33 l0_2 x17_3).f1))).setCell ⟨gb165, 2, none⟩ (.int .i64 ((rd_T33 l0_2 x17_3).f2))) w.heap.size (fun k_ => some k_ ≠ (v161 : Value).ownBlock ∧ some k_ ≠ (u16 : Value).ownBlock ∧ k_ ≠ gb131 ∧ k_ ≠ gb165) (.slice Ao141 x6_2.length co141) x6_2) := ⟨by (with_reducible repeat (first | apply Kd.S_alloc | apply Kd.S_drewN | apply Kd.S_drew)); exact Kd.S_mono (Kd.S_far (p := ⟨gb165, 2, none⟩) (Kd.S_far (p := ⟨gb165, 1, none⟩) (Kd.S_far (p := ⟨gb165, 0, none⟩) (Kd.S_mono HO_6.out (fun k_ hk => (⟨hk, hk.2⟩ : _ ∧ k_ ≠ gb165))) (fun _ hk => hk.2) (.int .i64 ((rd_T33 l0_2 x17_3).f0))) (fun _ hk => hk.2) (.int .i64 ((rd_T33 l0_2 x17_3).f1))) (fun _ hk => hk.2) (.int .i64 ((rd_T33 l0_2 x17_3).f2))) (fun _ hk => ⟨hk.1.1.1, ⟨hk.1.1.2.1, ⟨hk.1.1.2.2, hk.1.2⟩⟩⟩)⟩
                have n1_ : Aside0 (Kd.R k33 33 (((w249.setCell ⟨gb165, 0, none⟩ (.int .i64 ((rd_T33 l0_2 x17_3).f0))).setCell ⟨gb165, 1, none⟩ (.int .i64 ((rd_T33 l0_2 x17_3).f1))).setCell ⟨gb165, 2, none⟩ (.int .i64 ((rd_T33 l0_2 x17_3).f2))) w.heap.size (fun k_ => some k_ ≠ (u16 : Value).ownBlock ∧ k_ ≠ gb165) v161 t157) := ⟨by (with_reducible repeat (first | apply Kd.R_alloc | apply Kd.R_drewN | apply Kd.R_drew)); exact Kd.R_mono (Kd.R_far (p := ⟨gb165, 2, none⟩) (Kd.R_far (p := ⟨gb165, 1, none⟩) (Kd.R_far (p := ⟨gb165, 0, none⟩) (Kd.R_mono HO_14.out (fun k_ hk => (⟨hk, hk.2⟩ : _ ∧ k_ ≠ gb165))) (fun _ hk => hk.2) (.int .i64 ((rd_T33 l0_2 x17_3).f0))) (fun _ hk => hk.2) (.int .i64 ((rd_T33 l0_2 x17_3).f1))) (fun _ hk => hk.2) (.int .i64 ((rd_T33 l0_2 x17_3).f2))) (fun _ hk => ⟨hk.1.1, hk.1.2⟩)⟩
                have n2_ : Aside0 (Kd.R k33 33 (((w249.setCell ⟨gb165, 0, none⟩ (.int .i64 ((rd_T33 l0_2 x17_3).f0))).setCell ⟨gb165, 1, none⟩ (.int .i64 ((rd_T33 l0_2 x17_3).f1))).setCell ⟨gb165, 2, none⟩ (.int .i64 ((rd_T33 l0_2 x17_3).f2))) w.heap.size (fun k_ => some k_ ≠ (v161 : Value).ownBlock ∧ k_ ≠ gb165) u16 x16_3) := ⟨by (with_reducible repeat (first | apply Kd.R_alloc | apply Kd.R_drewN | apply Kd.R_drew)); exact Kd.R_mono (Kd.R_far (p := ⟨gb165, 2, none⟩) (Kd.R_far (p := ⟨gb165, 1, none⟩) (Kd.R_far (p := ⟨gb165, 0, none⟩) (Kd.R_mono HO_16.out (fun k_ hk => (⟨hk, hk.2⟩ : _ ∧ k_ ≠ gb165))) (fun _ hk => hk.2) (.int .i64 ((rd_T33 l0_2 x17_3).f0))) (fun _ hk => hk.2) (.int .i64 ((rd_T33 l0_2 x17_3).f1))) (fun _ hk => hk.2) (.int .i64 ((rd_T33 l0_2 x17_3).f2))) (fun _ hk => ⟨hk.1.1, hk.1.2⟩)⟩
                have n3_ : Aside0 ((((w249.setCell ⟨gb165, 0, none⟩ (.int .i64 ((rd_T33 l0_2 x17_3).f0))).setCell ⟨gb165, 1, none⟩ (.int .i64 ((rd_T33 l0_2 x17_3).f1))).setCell ⟨gb165, 2, none⟩ (.int .i64 ((rd_T33 l0_2 x17_3).f2))).heap[gb131]? = some (.cells #[.int .i64 a0_0, .int .i64 a0_1, .slice (some ad164) l0_2.length c0_2] 25 (0, 0))) := ⟨by (with_reducible repeat (first | apply blk_drewN | apply blk_drew | apply blk_alloc)); refine blk_far ?_ NB131_165.out _; (with_reducible repeat (first | apply blk_drewN | apply blk_drew | apply blk_alloc)); refine blk_far ?_ NB131_165.out _; (with_reducible repeat (first | apply blk_drewN | apply blk_drew | apply blk_alloc)); refine blk_far ?_ NB131_165.out _; (with_reducible repeat (first | apply blk_drewN | apply blk_drew | apply blk_alloc)); exact BK131.out⟩
                have n4_ : Aside0 ((((w249.setCell ⟨gb165, 0, none⟩ (.int .i64 ((rd_T33 l0_2 x17_3).f0))).setCell ⟨gb165, 1, none⟩ (.int .i64 ((rd_T33 l0_2 x17_3).f1))).setCell ⟨gb165, 2, none⟩ (.int .i64 ((rd_T33 l0_2 x17_3).f2))).heap[gb137]? = some (.cells #[.int .i64 x138000_2, .int .i64 x138001_2, .int .i64 x138002_2, .int .i64 x138003_2] 41 (0, 0))) := ⟨by (with_reducible repeat (first | apply blk_drewN | apply blk_drew | apply blk_alloc)); refine blk_far ?_ NB137_165.out _; (with_reducible repeat (first | apply blk_drewN | apply blk_drew | apply blk_alloc)); refine blk_far ?_ NB137_165.out _; (with_reducible repeat (first | apply blk_drewN | apply blk_drew | apply blk_alloc)); refine blk_far ?_ NB137_165.out _; (with_reducible repeat (first | apply blk_drewN | apply blk_drew | apply blk_alloc)); exact BK137.out⟩
                have n5_ : Aside0 ((((w249.setCell ⟨gb165, 0, none⟩ (.int .i64 ((rd_T33 l0_2 x17_3).f0))).setCell ⟨gb165, 1, none⟩ (.int .i64 ((rd_T33 l0_2 x17_3).f1))).setCell ⟨gb165, 2, none⟩ (.int .i64 ((rd_T33 l0_2 x17_3).f2))).heap[gb165]? = some (.cells #[.int .i64 ((rd_T33 l0_2 x17_3).f0), .int .i64 ((rd_T33 l0_2 x17_3).f1), .int .i64 ((rd_T33 l0_2 x17_3).f2)] 33 (0, 0))) := ⟨by (with_reducible repeat (first | apply blk_drewN | apply blk_drew | apply blk_alloc)); refine blk_put (cs := #[.int .i64 ((rd_T33 l0_2 x17_3).f0), .int .i64 ((rd_T33 l0_2 x17_3).f1), .int .i64 0]) ?_ 2 _ rfl; (with_reducible repeat (first | apply blk_drewN | apply blk_drew | apply blk_alloc)); refine blk_put (cs := #[.int .i64 ((rd_T33 l0_2 x17_3).f0), .int .i64 0, .int .i64 0]) ?_ 1 _ rfl; (with_reducible repeat (first | apply blk_drewN | apply blk_drew | apply blk_alloc)); refine blk_put (cs := #[.int .i64 0, .int .i64 0, .int .i64 0]) ?_ 0 _ rfl; (with_reducible repeat (first | apply blk_drewN | apply blk_drew | apply blk_alloc)); exact BK165.out⟩
                have n6_ : Aside0 (Below w.heap.size w (((w249.setCell ⟨gb165, 0, none⟩ (.int .i64 ((rd_T33 l0_2 x17_3).f0))).setCell ⟨gb165, 1, none⟩ (.int .i64 ((rd_T33 l0_2 x17_3).f1))).setCell ⟨gb165, 2, none⟩ (.int .i64 ((rd_T33 l0_2 x17_3).f2)))) := ⟨by repeat (first | (with_reducible first | exact HB.out | apply below_alloc | apply pw_below_drewN | apply below_drew1 | refine below_set ?_ GE131.out | refine below_set ?_ GE137.out | refine below_set ?_ GE165.out) | exact HB.out)⟩
                (try clear HO_6); (try clear HO_14); (try clear HO_16); (try clear BK131); (try clear BK137); (try clear BK165); (try clear HB)
                generalize (((w249.setCell ⟨gb165, 0, none⟩ (.int .i64 ((rd_T33 l0_2 x17_3).f0))).setCell ⟨gb165, 1, none⟩ (.int .i64 ((rd_T33 l0_2 x17_3).f1))).setCell ⟨gb165, 2, none⟩ (.int .i64 ((rd_T33 l0_2 x17_3).f2))) = w253 at n0_ n1_ n2_ n3_ n4_ n5_ n6_ ⊢
                have HO_6 := n0_; have HO_14 := n1_; have HO_16 := n2_; have BK131 := n3_; have BK137 := n4_; have BK165 := n5_; have HB := n6_
                clear n0_ n1_ n2_ n3_ n4_ n5_ n6_
                have n0_ := Aside0.mk (Kd.S_drew HO_6.out)
                have n1_ := Aside0.mk (Kd.R_drew HO_14.out)
                have n2_ := Aside0.mk (Kd.R_drew HO_16.out)
                have n3_ := Aside0.mk (blk_drew BK131.out)
                have n4_ := Aside0.mk (blk_drew BK137.out)
                have n5_ := Aside0.mk (blk_drew BK165.out)
                have n6_ := Aside0.mk (below_drew1 HB.out)
                clear HO_6 HO_14 HO_16 BK131 BK137 BK165 HB
                have HO_6 := n0_; have HO_14 := n1_; have HO_16 := n2_; have BK131 := n3_; have BK137 := n4_; have BK165 := n5_; have HB := n6_
                clear n0_ n1_ n2_ n3_ n4_ n5_ n6_
                refine start_ (n := 8) (S := fun w' => w'.cell? ⟨gb165, 0, none⟩ = some (.int .i64 ((rd_T33 l0_2 x17_3).f0)) ∧ w'.cell? ⟨gb165, 1, none⟩ = some (.int .i64 ((rd_T33 l0_2 x17_3).f1)) ∧ w'.cell? ⟨gb165, 2, none⟩ = some (.int .i64 ((rd_T33 l0_2 x17_3).f2)) ∧ w'.cell? ⟨gb137, 0, none⟩ = some (.int .i64 x138000_2) ∧ w'.cell? ⟨gb137, 1, none⟩ = some (.int .i64 x138001_2) ∧ w'.cell? ⟨gb137, 2, none⟩ = some (.int .i64 x138002_2) ∧ w'.cell? ⟨gb137, 3, none⟩ = some (.int .i64 x138003_2)) (ds := [7]) #[ff, ff, ff, ff, ff, ff, ff, ff] (by kernel_rfl) rfl rfl ⟨(blk_cell BK165.out 0).trans rfl, (blk_cell BK165.out 1).trans rfl, (blk_cell BK165.out 2).trans rfl, (blk_cell BK137.out 0).trans rfl, (blk_cell BK137.out 1).trans rfl, (blk_cell BK137.out 2).trans rfl, (blk_cell BK137.out 3).trans rfl⟩ (fun hHeld => ?_); refine with_tabW lawAll.tab23 lawAll.bits23 (fun HT_ HW_ => ?_)
                generalize w253.drew = w254 at HO_6 HO_14 HO_16 BK131 BK137 BK165 HB hHeld ⊢
                refine pure_ (i := 0) (N := some 165) (v := ?_) (a' := ?_) #[tt, ff, ff, ff, ff, ff, ff, ff] rfl rfl (any_of HT_.out (by kernel_rfl)) (fun _ _ _ h => h) (Or.inl ⟨by rfl, ?_⟩) ?_ ?_
                rotate_left; (· intro w'; go_simp; with_reducible rfl); rotate_left; (· simp only [Act.put, sA, sB, sC, i64_w, i32_w]; rfl)
                refine pure_ (i := 2) (N := some 167) (v := ?_) (a' := ?_) #[tt, ff, tt, ff, ff, ff, ff, ff] rfl rfl (any_of HT_.out (by kernel_rfl)) (fun _ _ _ h => h) (Or.inl ⟨by rfl, ?_⟩) ?_ ?_
                rotate_left; (· intro w'; go_simp; with_reducible rfl); rotate_left; (· simp only [Act.put, sA, sB, sC, i64_w, i32_w]; rfl)
                have cE_ := HEQ_.out
                refine pure_ (i := 3) (N := some 168) (v := ?_) (a' := ?_) #[tt, ff, tt, tt, ff, ff, ff, ff] rfl rfl (any_of HT_.out (by kernel_rfl)) (fun _ _ _ h => h) (Or.inl ⟨by rfl, ?_⟩) ?_ ?_
                rotate_left; (· intro w'; go_simp; with_reducible rfl); rotate_left; (· simp only [Act.put, sA, sB, sC, i64_w, i32_w]; rfl)
                clear cE_
                refine take_ (i := 1) (N := some 166) (v := ?_) (a' := ?_) #[tt, tt, tt, tt, ff, ff, ff, ff] rfl rfl (take_ofW HT_.out HW_.out (by kernel_rfl)) (fun _ _ _ h => h) (Or.inl ⟨by rfl, ?_⟩) hHeld ?_ ?_
                rotate_left; (· rintro w' ⟨s0, s1, s2, s3, s4, s5, s6⟩; go_simp; with_reducible rfl); rotate_left; (· simp only [Act.put, sA, sB, sC, i64_w, i32_w]; rfl)
                refine take_ (i := 4) (N := some 169) (v := ?_) (a' := ?_) #[tt, tt, tt, tt, tt, ff, ff, ff] rfl rfl (take_ofW HT_.out HW_.out (by kernel_rfl)) (fun _ _ _ h => h) (Or.inl ⟨by rfl, ?_⟩) hHeld ?_ ?_
                rotate_left; (· rintro w' ⟨s0, s1, s2, s3, s4, s5, s6⟩; go_simp; with_reducible rfl); rotate_left; (· simp only [Act.put, sA, sB, sC, i64_w, i32_w]; rfl)
                refine pure_ (i := 5) (N := some 170) (v := ?_) (a' := ?_) #[tt, tt, tt, tt, tt, tt, ff, ff] rfl rfl (any_of HT_.out (by kernel_rfl)) (fun _ _ _ h => h) (Or.inl ⟨by rfl, ?_⟩) ?_ ?_
                rotate_left; (· intro w'; go_simp; with_reducible rfl); rotate_left; (· simp only [Act.put, sA, sB, sC, i64_w, i32_w]; rfl)
                refine pure_ (i := 6) (N := some 171) (v := ?_) (a' := ?_) #[tt, tt, tt, tt, tt, tt, tt, ff] rfl rfl (any_of HT_.out (by kernel_rfl)) (fun _ _ _ h => h) (Or.inl ⟨by rfl, ?_⟩) ?_ ?_
                rotate_left; (· intro w'; go_simp; with_reducible rfl); rotate_left; (· simp only [Act.put, sA, sB, sC, i64_w, i32_w]; rfl)
                refine last_ (i := 7) (N := none) #[tt, tt, tt, tt, tt, tt, tt, tt] rfl rfl (one_of HT_.out (by kernel_rfl)) (by decide) (fun K hK => ?_)
                have hs255 : w254.cell? ⟨gb165, 2, none⟩ = some (.int .i64 ((rd_T33 l0_2 x17_3).f2)) := (blk_cell BK165.out 2).trans rfl
                have hfs255 := blk_frozen BK165.out 2
                have hns255_0 := NB131_165.out
                have hns255_1 := NB137_165.out
                have hms255_0 := NB165_131.out
                have hms255_1 := NB165_137.out
                refine skip_ (w1 := ?_) (by rfl) rfl ?_ ?_
                rotate_left
                ·go_simp
                 rfl
                refine hK.out _ _ ?_
                clear hK K
                refine done_ (done_of HT_.out (by kernel_rfl)) ?_
                have H := Hc234_.out
                clear Hc234_
                by_cases c234 : (wrap64 (((rd_T33 l0_2 x17_3).f2) - x138002_2)) > 0
                rotate_left
                ·rw [if_neg c234] at H
                 have c234b0 : decide (0 < (wrap64 (((rd_T33 l0_2 x17_3).f2) - x138002_2))) = false := decide_eq_false c234
                 clear c234
                 have H' := Aside0.mk H
                 clear H
                 have hcz256_0 : w254.cell? ⟨gb165, 0, none⟩ = some (.int .i64 ((rd_T33 l0_2 x17_3).f0)) := (blk_cell BK165.out 0).trans rfl
                 have hcz256_1 : w254.cell? ⟨gb165, 1, none⟩ = some (.int .i64 ((rd_T33 l0_2 x17_3).f1)) := (blk_cell BK165.out 1).trans rfl
                 have hcz256_2 : w254.cell? ⟨gb165, 2, none⟩ = some (.int .i64 ((rd_T33 l0_2 x17_3).f2)) := (blk_cell BK165.out 2).trans rfl
                 have hfz256_0 := blk_frozen BK165.out 0
                 have hfz256_1 := blk_frozen BK165.out 1
                 have hfz256_2 := blk_frozen BK165.out 2
                 try go_wp2
                 go_roundg kj142
                 case measure => have := HJ3.out; have := HK2.out; have := HK3.out; have := HJ142.out; omega
                 case rel => exact ⟨(x16_3), (wrap64 (x17_3 + 1)), (by first | rfl | (simp; done) | (simp [*]; done)), H', ⟨by have := HJ3.out; have := HK2.out; have := HK3.out; have := HJ142.out; omega⟩, ⟨by (with_reducible repeat (first | apply Kd.S_alloc | apply Kd.S_drewN | apply Kd.S_drew)); exact Kd.S_mono (Kd.S_far (p := ⟨gb165, 2, none⟩) (Kd.S_mono HO_6.out (fun k_ hk => (⟨hk, hk.2.2.2⟩ : _ ∧ k_ ≠ gb165))) (fun _ hk => hk.2) (.int .i64 (wrap64 (((rd_T33 l0_2 x17_3).f2) - x138002_2)))) (fun _ hk => ⟨hk.1.1, ⟨hk.1.2.1, hk.1.2.2.1⟩⟩)⟩, ⟨by (with_reducible repeat (first | apply Kd.R_alloc | apply Kd.R_drewN | apply Kd.R_drew)); exact Kd.R_mono (Kd.R_far (p := ⟨gb165, 2, none⟩) (Kd.R_mono HO_14.out (fun k_ hk => (⟨hk, hk.2⟩ : _ ∧ k_ ≠ gb165))) (fun _ hk => hk.2) (.int .i64 (wrap64 (((rd_T33 l0_2 x17_3).f2) - x138002_2)))) (fun _ hk => hk.1.1)⟩, ⟨by (with_reducible repeat (first | apply Kd.R_alloc | apply Kd.R_drewN | apply Kd.R_drew)); exact Kd.R_mono (Kd.R_far (p := ⟨gb165, 2, none⟩) (Kd.R_mono HO_16.out (fun k_ hk => (⟨hk, hk.2⟩ : _ ∧ k_ ≠ gb165))) (fun _ hk => hk.2) (.int .i64 (wrap64 (((rd_T33 l0_2 x17_3).f2) - x138002_2)))) (fun _ hk => hk.1.1)⟩, ⟨by (with_reducible repeat (first | apply blk_drewN | apply blk_drew | apply blk_alloc)); refine blk_far ?_ NB131_165.out _; (with_reducible repeat (first | apply blk_drewN | apply blk_drew | apply blk_alloc)); exact BK131.out⟩, ⟨by (with_reducible repeat (first | apply blk_drewN | apply blk_drew | apply blk_alloc)); refine blk_far ?_ NB137_165.out _; (with_reducible repeat (first | apply blk_drewN | apply blk_drew | apply blk_alloc)); exact BK137.out⟩, ⟨by repeat (first | (with_reducible first | exact HB.out | apply below_alloc | apply pw_below_drewN | apply below_drew1 | refine below_set ?_ GE131.out | refine below_set ?_ GE137.out | refine below_set ?_ GE165.out) | exact HB.out)⟩⟩
                rw [if_pos c234] at H
                have c234b0 : decide (0 < (wrap64 (((rd_T33 l0_2 x17_3).f2) - x138002_2))) = true := decide_eq_true c234
                clear c234
                by_cases c235 : x16_3.length < 5864062014805
                rotate_left
                ·rw [if_neg c235] at H; exact absurd H (by simp)
                rw [if_pos c235] at H
                have LMc235 := Aside0.mk c235
                clear c235
                obtain ⟨y172, hy172⟩ : ∃ y_ : List (S33), y_ = (x16_3 ++ [(⟨(rd_T33 l0_2 x17_3).f0, (rd_T33 l0_2 x17_3).f1, wrap64 (((rd_T33 l0_2 x17_3).f2) - x138002_2)⟩ : S33)]) := ⟨_, rfl⟩
                replace H : (lawAll.l1 kj142 x6_2 t157 t158 y172 (wrap64 (x17_3 + 1)) a0_0 a0_1 l0_2 x138000_2 x138001_2 x138002_2 x138003_2) = some r := by first | (rw [hy172]; with_reducible exact H) | (have H2_ := (Option.bind_some _ _).symm.trans H; rw [hy172]; with_reducible exact H2_) | (have H2_ := (Option.bind_some _ _).symm.trans H; with_reducible exact H2_) | with_reducible exact H | (rw [hy172]; exact H) | exact H
                have Ny172 := Aside0.mk hy172
                clear hy172
                have H' := Aside0.mk H
                clear H
                have hcz245_0 : w254.cell? ⟨gb165, 0, none⟩ = some (.int .i64 ((rd_T33 l0_2 x17_3).f0)) := (blk_cell BK165.out 0).trans rfl
                have hcz245_1 : w254.cell? ⟨gb165, 1, none⟩ = some (.int .i64 ((rd_T33 l0_2 x17_3).f1)) := (blk_cell BK165.out 1).trans rfl
                have hcz245_2 : w254.cell? ⟨gb165, 2, none⟩ = some (.int .i64 ((rd_T33 l0_2 x17_3).f2)) := (blk_cell BK165.out 2).trans rfl
                have hfz245_0 := blk_frozen BK165.out 0
                have hfz245_1 := blk_frozen BK165.out 1
                have hfz245_2 := blk_frozen BK165.out 2
                try go_wp2_with (first | ((with_reducible refine gate_builtin (b := .append) (xs := #[.tmp 178, .tmp 180]) rfl ?_); (try (refine gate_guard (by rfl) ?_; dsimp only)); at_builtin; refine Kd.R_append k33 (w0 := w) w.heap.size rfl (.tmp 178) (.tmp 180) 23 33 (.agg #[(.int .i64 0), (.int .i64 0), (.int .i64 0)]) 24 rfl Try.underlying23 info33 rfl (by decide) (by omega) u16 x16_3 (⟨(rd_T33 l0_2 x17_3).f0, (rd_T33 l0_2 x17_3).f1, wrap64 (((rd_T33 l0_2 x17_3).f2) - x138002_2)⟩ : S33) [.int .i64 ((rd_T33 l0_2 x17_3).f0), .int .i64 ((rd_T33 l0_2 x17_3).f1), .int .i64 (wrap64 (((rd_T33 l0_2 x17_3).f2) - x138002_2))] (fun k_ => some k_ ≠ (v161 : Value).ownBlock ∧ k_ ≠ gb165) (fun _ => False) rfl (by first | (go_simp; done) | (go_simp; rfl)) ?aP (fun _ hk => hk.elim) ?aF ?aO ?aB ?aS ?aL ?_; (case aP => exact k33_mkM _ _ _ (⟨(rd_T33 l0_2 x17_3).f0, (rd_T33 l0_2 x17_3).f1, wrap64 (((rd_T33 l0_2 x17_3).f2) - x138002_2)⟩ : S33)); (case aB => exact (by repeat (first | (with_reducible first | exact HB.out | apply below_alloc | apply pw_below_drewN | apply below_drew1 | refine below_set ?_ GE131.out | refine below_set ?_ GE137.out | refine below_set ?_ GE165.out) | exact HB.out))); (case aF => exact (fun k_ hk => ⟨Kd.fresh' (Kd.R_lt (by (with_reducible repeat (first | apply Kd.R_alloc | apply Kd.R_drewN | apply Kd.R_drew)); exact (Kd.R_mono (Kd.R_far (p := ⟨gb165, 2, none⟩) (Kd.R_mono HO_14.out (fun k_ hk => (⟨hk, hk.2⟩ : _ ∧ k_ ≠ gb165))) (fun _ hk => hk.2) (.int .i64 (wrap64 (((rd_T33 l0_2 x17_3).f2) - x138002_2)))) (fun _ h_ => h_.1)))) k_ hk, Kd.freshB (g := gb165) (o := .cells #[.int .i64 ((rd_T33 l0_2 x17_3).f0), .int .i64 ((rd_T33 l0_2 x17_3).f1), .int .i64 (wrap64 (((rd_T33 l0_2 x17_3).f2) - x138002_2))] 33 (0, 0)) (by (with_reducible repeat (first | apply blk_drewN | apply blk_drew | apply blk_alloc)); refine blk_put (cs := #[.int .i64 ((rd_T33 l0_2 x17_3).f0), .int .i64 ((rd_T33 l0_2 x17_3).f1), .int .i64 ((rd_T33 l0_2 x17_3).f2)]) ?_ 2 _ rfl; (with_reducible repeat (first | apply blk_drewN | apply blk_drew | apply blk_alloc)); exact BK165.out) k_ hk⟩)); (case aO => exact (by (with_reducible repeat (first | apply Kd.R_alloc | apply Kd.R_drewN | apply Kd.R_drew)); exact Kd.R_mono (Kd.R_far (p := ⟨gb165, 2, none⟩) (Kd.R_mono HO_16.out (fun k_ hk => (⟨hk, hk.2⟩ : _ ∧ k_ ≠ gb165))) (fun _ hk => hk.2) (.int .i64 (wrap64 (((rd_T33 l0_2 x17_3).f2) - x138002_2)))) (fun _ hk => ⟨hk.1.1, hk.1.2⟩))); (case aS => exact (below_size (by repeat (first | (with_reducible first | exact HB.out | apply below_alloc | apply pw_below_drewN | apply below_drew1 | refine below_set ?_ GE131.out | refine below_set ?_ GE137.out | refine below_set ?_ GE165.out) | exact HB.out)))); (case aL => have := LMc235.out; omega); intro v173 w246 ho hb hg hat; rw [← Ny172.out] at ho; have n0_ := Aside0.mk (Kd.S_after (ok := (fun k_ => some k_ ≠ (v161 : Value).ownBlock ∧ k_ ≠ gb131 ∧ k_ ≠ gb165)) (by (with_reducible repeat (first | apply Kd.S_alloc | apply Kd.S_drewN | apply Kd.S_drew)); exact Kd.S_mono (Kd.S_far (p := ⟨gb165, 2, none⟩) (Kd.S_mono HO_6.out (fun k_ hk => (⟨hk, hk.2.2.2⟩ : _ ∧ k_ ≠ gb165))) (fun _ hk => hk.2) (.int .i64 (wrap64 (((rd_T33 l0_2 x17_3).f2) - x138002_2)))) (fun _ hk => ⟨⟨hk.1.1, ⟨hk.1.2.2.1, hk.1.2.2.2⟩⟩, hk.1.2.1⟩)) hg hat); have n1_ := Aside0.mk (Kd.R_after (ok := (fun k_ => k_ ≠ gb165)) (by (with_reducible repeat (first | apply Kd.R_alloc | apply Kd.R_drewN | apply Kd.R_drew)); exact Kd.R_mono (Kd.R_far (p := ⟨gb165, 2, none⟩) (Kd.R_mono HO_14.out (fun k_ hk => (⟨hk, hk.2⟩ : _ ∧ k_ ≠ gb165))) (fun _ hk => hk.2) (.int .i64 (wrap64 (((rd_T33 l0_2 x17_3).f2) - x138002_2)))) (fun _ hk => ⟨hk.1.2, hk.1.1⟩)) hg hat); have n2_ := Aside0.mk (blk_grown (g := gb131) (o := .cells #[.int .i64 a0_0, .int .i64 a0_1, .slice (some ad164) l0_2.length c0_2] 25 (0, 0)) (by (with_reducible repeat (first | apply blk_drewN | apply blk_drew | apply blk_alloc)); refine blk_far ?_ NB131_165.out _; (with_reducible repeat (first | apply blk_drewN | apply blk_drew | apply blk_alloc)); exact BK131.out) hg (Kd.R_ne HO_16.out BK131.out (by decide))); have n3_ := Aside0.mk (blk_grown (g := gb137) (o := .cells #[.int .i64 x138000_2, .int .i64 x138001_2, .int .i64 x138002_2, .int .i64 x138003_2] 41 (0, 0)) (by (with_reducible repeat (first | apply blk_drewN | apply blk_drew | apply blk_alloc)); refine blk_far ?_ NB137_165.out _; (with_reducible repeat (first | apply blk_drewN | apply blk_drew | apply blk_alloc)); exact BK137.out) hg (Kd.R_ne HO_16.out BK137.out (by decide))); have n4_ := Aside0.mk (blk_grown (g := gb165) (o := .cells #[.int .i64 ((rd_T33 l0_2 x17_3).f0), .int .i64 ((rd_T33 l0_2 x17_3).f1), .int .i64 (wrap64 (((rd_T33 l0_2 x17_3).f2) - x138002_2))] 33 (0, 0)) (by (with_reducible repeat (first | apply blk_drewN | apply blk_drew | apply blk_alloc)); refine blk_put (cs := #[.int .i64 ((rd_T33 l0_2 x17_3).f0), .int .i64 ((rd_T33 l0_2 x17_3).f1), .int .i64 ((rd_T33 l0_2 x17_3).f2)]) ?_ 2 _ rfl; (with_reducible repeat (first | apply blk_drewN | apply blk_drew | apply blk_alloc)); exact BK165.out) hg (Kd.R_away HO_16.out (fun _ hk => hk.2))); have n5_ := Aside0.mk (hb); have n6_ := Aside0.mk (ho); clear HO_6; clear HO_14; clear BK131; clear BK137; clear BK165; clear HB; clear HO_16; have HO_6 := n0_; have HO_14 := n1_; have BK131 := n2_; have BK137 := n3_; have BK165 := n4_; have HB := n5_; have HO174 := n6_; clear n0_ n1_ n2_ n3_ n4_ n5_ n6_; clear ho hb hg hat))
                go_roundg kj142
                case measure => have := HJ3.out; have := HK2.out; have := HK3.out; have := HJ142.out; omega
                case rel => exact ⟨(y172), (wrap64 (x17_3 + 1)), (by first | rfl | (simp; done) | (simp [*]; done)), H', ⟨by have := HJ3.out; have := HK2.out; have := HK3.out; have := HJ142.out; omega⟩, ⟨by (with_reducible repeat (first | apply Kd.S_alloc | apply Kd.S_drewN | apply Kd.S_drew)); exact Kd.S_mono HO_6.out (fun _ hk => ⟨hk.1.1, ⟨hk.2, hk.1.2.1⟩⟩)⟩, ⟨by (with_reducible repeat (first | apply Kd.R_alloc | apply Kd.R_drewN | apply Kd.R_drew)); exact Kd.R_mono HO_14.out (fun _ hk => hk.2)⟩, ⟨by (with_reducible repeat (first | apply Kd.R_alloc | apply Kd.R_drewN | apply Kd.R_drew)); exact Kd.R_mono HO174.out (fun _ hk => hk.1)⟩, ⟨by (with_reducible repeat (first | apply blk_drewN | apply blk_drew | apply blk_alloc)); exact BK131.out⟩, ⟨by (with_reducible repeat (first | apply blk_drewN | apply blk_drew | apply blk_alloc)); exact BK137.out⟩, ⟨by repeat (first | (with_reducible first | exact HB.out | apply below_alloc | apply pw_below_drewN | apply below_drew1 | refine below_set ?_ GE131.out | refine below_set ?_ GE137.out | refine below_set ?_ GE165.out) | exact HB.out)⟩⟩
              as_aux_lemma =>
               rw [if_neg c222] at H
               have c222b0 : (x17_3 == 2) = false := beq_eq_false_iff_ne.mpr c222
               have c222b1 : (x17_3 != 2) = true := bne_iff_ne.mpr c222
               by_cases c257 : x17_3 = 3
               rotate_left
               ·rw [if_neg c257] at H; exact absurd H (by simp)
               as_aux_lemma =>
                rw [if_pos c257] at H
                have c257b0 : (x17_3 == 3) = true := beq_iff_eq.mpr c257
                have c257b1 : (x17_3 != 3) = false := bne_eq_false_iff_eq.mpr c257
                have HEQ_ := Aside0.mk c257
                clear c257
                by_cases c258 : (wrap64 (((rd_T33 l0_2 x17_3).f2) - x138003_2)) < 0
                ·rw [if_pos c258] at H; exact absurd H (by simp)
                rw [if_neg c258] at H
                have c258b0 : decide ((wrap64 (((rd_T33 l0_2 x17_3).f2) - x138003_2)) < 0) = false := decide_eq_false c258
                clear c258
                have Hc269_ := Aside0.mk H
                clear H
                have hnb282 := NB131_137.out
                have hnc282 := NB137_131.out
                have hcz283_0 : wc.cell? ⟨gb131, 0, none⟩ = some (.int .i64 a0_0) := (blk_cell BK131.out 0).trans rfl
                have hcz283_1 : wc.cell? ⟨gb131, 1, none⟩ = some (.int .i64 a0_1) := (blk_cell BK131.out 1).trans rfl
                have hcz283_2 : wc.cell? ⟨gb131, 2, none⟩ = some (.slice A0_2 l0_2.length c0_2) := (blk_cell BK131.out 2).trans rfl
                have hfz283_0 := blk_frozen BK131.out 0
                have hfz283_1 := blk_frozen BK131.out 1
                have hfz283_2 := blk_frozen BK131.out 2
                have p164 : 0 ≤ (x17_3 : Int) := of_decide_eq_true (by first | (with_reducible assumption) | assumption)
                have q164 : x17_3 < (l0_2.length : Int) := of_decide_eq_true (by first | (with_reducible assumption) | assumption)
                obtain ⟨ad164, e164, hx164_0, hx164_1, hx164_2⟩ := at_T33 HR0_2.out x17_3 p164 q164
                cases e164
                replace hx164_0 := (HB.out.cell (World.block_lt_of_cell? w _ hx164_0)).trans hx164_0
                replace hx164_1 := (HB.out.cell (World.block_lt_of_cell? w _ hx164_1)).trans hx164_1
                replace hx164_2 := (HB.out.cell (World.block_lt_of_cell? w _ hx164_2)).trans hx164_2
                replace p164 := eq_true p164
                replace q164 := eq_true q164
                try go_wp2_with (first | ((with_reducible refine gate_dst (N := 18) rfl ?_); (try (refine gate_guard (by rfl) ?_; dsimp only)); refine box_event ?hg (N := 18) ?hd (cs := #[.int .i64 0, .int .i64 0, .int .i64 0]) (t := 33) ?hr ?_; (case hd => rfl); (case hg => rfl); (case hr => first | (go_simp; done) | (go_simp; rfl)); intro gb165 hg w284 hbox hb; have n0_ := Aside0.mk (Kd.S_below (Kd.S_elderB (by (with_reducible repeat (first | apply Kd.S_alloc | apply Kd.S_drewN | apply Kd.S_drew)); exact HO_6.out) gb165 (Nat.le_of_eq hg.symm)) hb); have n1_ := Aside0.mk (Kd.R_below (Kd.R_elderB (by (with_reducible repeat (first | apply Kd.R_alloc | apply Kd.R_drewN | apply Kd.R_drew)); exact HO_14.out) gb165 (Nat.le_of_eq hg.symm)) hb); have n2_ := Aside0.mk (Kd.R_below (Kd.R_elderB (by (with_reducible repeat (first | apply Kd.R_alloc | apply Kd.R_drewN | apply Kd.R_drew)); exact HO_16.out) gb165 (Nat.le_of_eq hg.symm)) hb); have n3_ := Aside0.mk (blk_below (g := gb131) (o := .cells #[.int .i64 a0_0, .int .i64 a0_1, .slice (some ad164) l0_2.length c0_2] 25 (0, 0)) (by (with_reducible repeat (first | apply blk_drewN | apply blk_drew | apply blk_alloc)); exact BK131.out) hb); have n4_ := Aside0.mk (blk_below (g := gb137) (o := .cells #[.int .i64 x138000_2, .int .i64 x138001_2, .int .i64 x138002_2, .int .i64 x138003_2] 41 (0, 0)) (by (with_reducible repeat (first | apply blk_drewN | apply blk_drew | apply blk_alloc)); exact BK137.out) hb); have n5_ := Aside0.mk (below_step (by repeat (first | (with_reducible first | exact HB.out | apply below_alloc | apply pw_below_drewN | apply below_drew1 | refine below_set ?_ GE131.out | refine below_set ?_ GE137.out) | exact HB.out)) hb); have n6_ := Aside0.mk (hbox); have n7_ := Aside0.mk ((by rw [hg]; exact (below_size (by repeat (first | (with_reducible first | exact HB.out | apply below_alloc | apply pw_below_drewN | apply below_drew1 | refine below_set ?_ GE131.out | refine below_set ?_ GE137.out) | exact HB.out))) : w.heap.size ≤ gb165)); have n8_ := Aside0.mk ((by rw [hg]; exact (below_size (by repeat (first | (with_reducible first | exact HB.out | apply below_alloc | apply pw_below_drewN | apply below_drew1 | refine below_set ?_ GE131.out | refine below_set ?_ GE137.out) | exact HB.out))) : w.heap.size ≤ gb165)); have n9_ := Aside0.mk ((by rw [hg]; exact Nat.ne_of_lt (blk_lt (g := gb131) (o := .cells #[.int .i64 a0_0, .int .i64 a0_1, .slice (some ad164) l0_2.length c0_2] 25 (0, 0)) (by (with_reducible repeat (first | apply blk_drewN | apply blk_drew | apply blk_alloc)); exact BK131.out)) : gb131 ≠ gb165)); have n10_ := Aside0.mk ((by rw [hg]; exact Nat.ne_of_gt (blk_lt (g := gb131) (o := .cells #[.int .i64 a0_0, .int .i64 a0_1, .slice (some ad164) l0_2.length c0_2] 25 (0, 0)) (by (with_reducible repeat (first | apply blk_drewN | apply blk_drew | apply blk_alloc)); exact BK131.out)) : gb165 ≠ gb131)); have n11_ := Aside0.mk ((by rw [hg]; exact Nat.ne_of_lt (blk_lt (g := gb137) (o := .cells #[.int .i64 x138000_2, .int .i64 x138001_2, .int .i64 x138002_2, .int .i64 x138003_2] 41 (0, 0)) (by (with_reducible repeat (first | apply blk_drewN | apply blk_drew | apply blk_alloc)); exact BK137.out)) : gb137 ≠ gb165)); have n12_ := Aside0.mk ((by rw [hg]; exact Nat.ne_of_gt (blk_lt (g := gb137) (o := .cells #[.int .i64 x138000_2, .int .i64 x138001_2, .int .i64 x138002_2, .int .i64 x138003_2] 41 (0, 0)) (by (with_reducible repeat (first | apply blk_drewN | apply blk_drew | apply blk_alloc)); exact BK137.out)) : gb165 ≠ gb137)); clear HO_6; clear HO_14; clear HO_16; clear BK131; clear BK137; clear HB; have HO_6 := n0_; have HO_14 := n1_; have HO_16 := n2_; have BK131 := n3_; have BK137 := n4_; have HB := n5_; have BK165 := n6_; have GW165 := n7_; have GE165 := n8_; have NB131_165 := n9_; have NB165_131 := n10_; have NB137_165 := n11_; have NB165_137 := n12_; clear n0_ n1_ n2_ n3_ n4_ n5_ n6_ n7_ n8_ n9_ n10_ n11_ n12_; clear hb hbox hg; have hnb285 := NB165_131.out; have hnc285 := NB131_165.out; have hnb286 := NB165_137.out; have hnc286 := NB137_165.out; have hcz287_0 : w284.cell? ⟨gb165, 0, none⟩ = some (.int .i64 0) := (blk_cell BK165.out 0).trans rfl; have hcz287_1 : w284.cell? ⟨gb165, 1, none⟩ = some (.int .i64 0) := (blk_cell BK165.out 1).trans rfl; have hcz287_2 : w284.cell? ⟨gb165, 2, none⟩ = some (.int .i64 0) := (blk_cell BK165.out 2).trans rfl; have hfz287_0 := blk_frozen BK165.out 0; have hfz287_1 := blk_frozen BK165.out 1; have hfz287_2 := blk_frozen BK165.out 2))
                have n0_ : Aside0 (Kd.S k25 25 (((w284.setCell ⟨gb165, 0, none⟩ (.int .i64 ((rd_T33 l0_2 x17_3).f0))).setCell ⟨gb165, 1, none⟩ (.int .i64 ((rd_T33 l0_2 x17_3).f1))).setCell ⟨gb165, 2, none⟩ (.int .i64 ((rd_T33 l0_2 x17_3).f2))) w.heap.size (fun k_ => some k_ ≠ (v161 : Value).ownBlock ∧ some k_ ≠ (u16 : Value).ownBlock ∧ k_ ≠ gb131 ∧ k_ ≠ gb165) (.slice Ao141 x6_2.length co141) x6_2) := ⟨by (with_reducible repeat (first | apply Kd.S_alloc | apply Kd.S_drewN | apply Kd.S_drew)); exact Kd.S_mono (Kd.S_far (p := ⟨gb165, 2, none⟩) (Kd.S_far (p := ⟨gb165, 1, none⟩) (Kd.S_far (p := ⟨gb165, 0, none⟩) (Kd.S_mono HO_6.out (fun k_ hk => (⟨hk, hk.2⟩ : _ ∧ k_ ≠ gb165))) (fun _ hk => hk.2) (.int .i64 ((rd_T33 l0_2 x17_3).f0))) (fun _ hk => hk.2) (.int .i64 ((rd_T33 l0_2 x17_3).f1))) (fun _ hk => hk.2) (.int .i64 ((rd_T33 l0_2 x17_3).f2))) (fun _ hk => ⟨hk.1.1.1, ⟨hk.1.1.2.1, ⟨hk.1.1.2.2, hk.1.2⟩⟩⟩)⟩
                have n1_ : Aside0 (Kd.R k33 33 (((w284.setCell ⟨gb165, 0, none⟩ (.int .i64 ((rd_T33 l0_2 x17_3).f0))).setCell ⟨gb165, 1, none⟩ (.int .i64 ((rd_T33 l0_2 x17_3).f1))).setCell ⟨gb165, 2, none⟩ (.int .i64 ((rd_T33 l0_2 x17_3).f2))) w.heap.size (fun k_ => some k_ ≠ (u16 : Value).ownBlock ∧ k_ ≠ gb165) v161 t157) := ⟨by (with_reducible repeat (first | apply Kd.R_alloc | apply Kd.R_drewN | apply Kd.R_drew)); exact Kd.R_mono (Kd.R_far (p := ⟨gb165, 2, none⟩) (Kd.R_far (p := ⟨gb165, 1, none⟩) (Kd.R_far (p := ⟨gb165, 0, none⟩) (Kd.R_mono HO_14.out (fun k_ hk => (⟨hk, hk.2⟩ : _ ∧ k_ ≠ gb165))) (fun _ hk => hk.2) (.int .i64 ((rd_T33 l0_2 x17_3).f0))) (fun _ hk => hk.2) (.int .i64 ((rd_T33 l0_2 x17_3).f1))) (fun _ hk => hk.2) (.int .i64 ((rd_T33 l0_2 x17_3).f2))) (fun _ hk => ⟨hk.1.1, hk.1.2⟩)⟩
                have n2_ : Aside0 (Kd.R k33 33 (((w284.setCell ⟨gb165, 0, none⟩ (.int .i64 ((rd_T33 l0_2 x17_3).f0))).setCell ⟨gb165, 1, none⟩ (.int .i64 ((rd_T33 l0_2 x17_3).f1))).setCell ⟨gb165, 2, none⟩ (.int .i64 ((rd_T33 l0_2 x17_3).f2))) w.heap.size (fun k_ => some k_ ≠ (v161 : Value).ownBlock ∧ k_ ≠ gb165) u16 x16_3) := ⟨by (with_reducible repeat (first | apply Kd.R_alloc | apply Kd.R_drewN | apply Kd.R_drew)); exact Kd.R_mono (Kd.R_far (p := ⟨gb165, 2, none⟩) (Kd.R_far (p := ⟨gb165, 1, none⟩) (Kd.R_far (p := ⟨gb165, 0, none⟩) (Kd.R_mono HO_16.out (fun k_ hk => (⟨hk, hk.2⟩ : _ ∧ k_ ≠ gb165))) (fun _ hk => hk.2) (.int .i64 ((rd_T33 l0_2 x17_3).f0))) (fun _ hk => hk.2) (.int .i64 ((rd_T33 l0_2 x17_3).f1))) (fun _ hk => hk.2) (.int .i64 ((rd_T33 l0_2 x17_3).f2))) (fun _ hk => ⟨hk.1.1, hk.1.2⟩)⟩
                have n3_ : Aside0 ((((w284.setCell ⟨gb165, 0, none⟩ (.int .i64 ((rd_T33 l0_2 x17_3).f0))).setCell ⟨gb165, 1, none⟩ (.int .i64 ((rd_T33 l0_2 x17_3).f1))).setCell ⟨gb165, 2, none⟩ (.int .i64 ((rd_T33 l0_2 x17_3).f2))).heap[gb131]? = some (.cells #[.int .i64 a0_0, .int .i64 a0_1, .slice (some ad164) l0_2.length c0_2] 25 (0, 0))) := ⟨by (with_reducible repeat (first | apply blk_drewN | apply blk_drew | apply blk_alloc)); refine blk_far ?_ NB131_165.out _; (with_reducible repeat (first | apply blk_drewN | apply blk_drew | apply blk_alloc)); refine blk_far ?_ NB131_165.out _; (with_reducible repeat (first | apply blk_drewN | apply blk_drew | apply blk_alloc)); refine blk_far ?_ NB131_165.out _; (with_reducible repeat (first | apply blk_drewN | apply blk_drew | apply blk_alloc)); exact BK131.out⟩
                have n4_ : Aside0 ((((w284.setCell ⟨gb165, 0, none⟩ (.int .i64 ((rd_T33 l0_2 x17_3).f0))).setCell ⟨gb165, 1, none⟩ (.int .i64 ((rd_T33 l0_2 x17_3).f1))).setCell ⟨gb165, 2, none⟩ (.int .i64 ((rd_T33 l0_2 x17_3).f2))).heap[gb137]? = some (.cells #[.int .i64 x138000_2, .int .i64 x138001_2, .int .i64 x138002_2, .int .i64 x138003_2] 41 (0, 0))) := ⟨by (with_reducible repeat (first | apply blk_drewN | apply blk_drew | apply blk_alloc)); refine blk_far ?_ NB137_165.out _; (with_reducible repeat (first | apply blk_drewN | apply blk_drew | apply blk_alloc)); refine blk_far ?_ NB137_165.out _; (with_reducible repeat (first | apply blk_drewN | apply blk_drew | apply blk_alloc)); refine blk_far ?_ NB137_165.out _; (with_reducible repeat (first | apply blk_drewN | apply blk_drew | apply blk_alloc)); exact BK137.out⟩
                have n5_ : Aside0 ((((w284.setCell ⟨gb165, 0, none⟩ (.int .i64 ((rd_T33 l0_2 x17_3).f0))).setCell ⟨gb165, 1, none⟩ (.int .i64 ((rd_T33 l0_2 x17_3).f1))).setCell ⟨gb165, 2, none⟩ (.int .i64 ((rd_T33 l0_2 x17_3).f2))).heap[gb165]? = some (.cells #[.int .i64 ((rd_T33 l0_2 x17_3).f0), .int .i64 ((rd_T33 l0_2 x17_3).f1), .int .i64 ((rd_T33 l0_2 x17_3).f2)] 33 (0, 0))) := ⟨by (with_reducible repeat (first | apply blk_drewN | apply blk_drew | apply blk_alloc)); refine blk_put (cs := #[.int .i64 ((rd_T33 l0_2 x17_3).f0), .int .i64 ((rd_T33 l0_2 x17_3).f1), .int .i64 0]) ?_ 2 _ rfl; (with_reducible repeat (first | apply blk_drewN | apply blk_drew | apply blk_alloc)); refine blk_put (cs := #[.int .i64 ((rd_T33 l0_2 x17_3).f0), .int .i64 0, .int .i64 0]) ?_ 1 _ rfl; (with_reducible repeat (first | apply blk_drewN | apply blk_drew | apply blk_alloc)); refine blk_put (cs := #[.int .i64 0, .int .i64 0, .int .i64 0]) ?_ 0 _ rfl; (with_reducible repeat (first | apply blk_drewN | apply blk_drew | apply blk_alloc)); exact BK165.out⟩
                have n6_ : Aside0 (Below w.heap.size w (((w284.setCell ⟨gb165, 0, none⟩ (.int .i64 ((rd_T33 l0_2 x17_3).f0))).setCell ⟨gb165, 1, none⟩ (.int .i64 ((rd_T33 l0_2 x17_3).f1))).setCell ⟨gb165, 2, none⟩ (.int .i64 ((rd_T33 l0_2 x17_3).f2)))) := ⟨by repeat (first | (with_reducible first | exact HB.out | apply below_alloc | apply pw_below_drewN | apply below_drew1 | refine below_set ?_ GE131.out | refine below_set ?_ GE137.out | refine below_set ?_ GE165.out) | exact HB.out)⟩
                (try clear HO_6); (try clear HO_14); (try clear HO_16); (try clear BK131); (try clear BK137); (try clear BK165); (try clear HB)
                generalize (((w284.setCell ⟨gb165, 0, none⟩ (.int .i64 ((rd_T33 l0_2 x17_3).f0))).setCell ⟨gb165, 1, none⟩ (.int .i64 ((rd_T33 l0_2 x17_3).f1))).setCell ⟨gb165, 2, none⟩ (.int .i64 ((rd_T33 l0_2 x17_3).f2))) = w288 at n0_ n1_ n2_ n3_ n4_ n5_ n6_ ⊢
                have HO_6 := n0_; have HO_14 := n1_; have HO_16 := n2_; have BK131 := n3_; have BK137 := n4_; have BK165 := n5_; have HB := n6_
                clear n0_ n1_ n2_ n3_ n4_ n5_ n6_
                have n0_ := Aside0.mk (Kd.S_drew HO_6.out)
                have n1_ := Aside0.mk (Kd.R_drew HO_14.out)
                have n2_ := Aside0.mk (Kd.R_drew HO_16.out)
                have n3_ := Aside0.mk (blk_drew BK131.out)
                have n4_ := Aside0.mk (blk_drew BK137.out)
                have n5_ := Aside0.mk (blk_drew BK165.out)
                have n6_ := Aside0.mk (below_drew1 HB.out)
                clear HO_6 HO_14 HO_16 BK131 BK137 BK165 HB
                have HO_6 := n0_; have HO_14 := n1_; have HO_16 := n2_; have BK131 := n3_; have BK137 := n4_; have BK165 := n5_; have HB := n6_
                clear n0_ n1_ n2_ n3_ n4_ n5_ n6_
                refine start_ (n := 8) (S := fun w' => w'.cell? ⟨gb165, 0, none⟩ = some (.int .i64 ((rd_T33 l0_2 x17_3).f0)) ∧ w'.cell? ⟨gb165, 1, none⟩ = some (.int .i64 ((rd_T33 l0_2 x17_3).f1)) ∧ w'.cell? ⟨gb165, 2, none⟩ = some (.int .i64 ((rd_T33 l0_2 x17_3).f2)) ∧ w'.cell? ⟨gb137, 0, none⟩ = some (.int .i64 x138000_2) ∧ w'.cell? ⟨gb137, 1, none⟩ = some (.int .i64 x138001_2) ∧ w'.cell? ⟨gb137, 2, none⟩ = some (.int .i64 x138002_2) ∧ w'.cell? ⟨gb137, 3, none⟩ = some (.int .i64 x138003_2)) (ds := [7]) #[ff, ff, ff, ff, ff, ff, ff, ff] (by kernel_rfl) rfl rfl ⟨(blk_cell BK165.out 0).trans rfl, (blk_cell BK165.out 1).trans rfl, (blk_cell BK165.out 2).trans rfl, (blk_cell BK137.out 0).trans rfl, (blk_cell BK137.out 1).trans rfl, (blk_cell BK137.out 2).trans rfl, (blk_cell BK137.out 3).trans rfl⟩ (fun hHeld => ?_); refine with_tabW lawAll.tab23 lawAll.bits23 (fun HT_ HW_ => ?_)
                generalize w288.drew = w289 at HO_6 HO_14 HO_16 BK131 BK137 BK165 HB hHeld ⊢
                refine pure_ (i := 0) (N := some 165) (v := ?_) (a' := ?_) #[tt, ff, ff, ff, ff, ff, ff, ff] rfl rfl (any_of HT_.out (by kernel_rfl)) (fun _ _ _ h => h) (Or.inl ⟨by rfl, ?_⟩) ?_ ?_
                rotate_left; (· intro w'; go_simp; with_reducible rfl); rotate_left; (· simp only [Act.put, sA, sB, sC, i64_w, i32_w]; rfl)
                refine pure_ (i := 2) (N := some 167) (v := ?_) (a' := ?_) #[tt, ff, tt, ff, ff, ff, ff, ff] rfl rfl (any_of HT_.out (by kernel_rfl)) (fun _ _ _ h => h) (Or.inl ⟨by rfl, ?_⟩) ?_ ?_
                rotate_left; (· intro w'; go_simp; with_reducible rfl); rotate_left; (· simp only [Act.put, sA, sB, sC, i64_w, i32_w]; rfl)
                have cE_ := HEQ_.out
                refine pure_ (i := 3) (N := some 168) (v := ?_) (a' := ?_) #[tt, ff, tt, tt, ff, ff, ff, ff] rfl rfl (any_of HT_.out (by kernel_rfl)) (fun _ _ _ h => h) (Or.inl ⟨by rfl, ?_⟩) ?_ ?_
                rotate_left; (· intro w'; go_simp; with_reducible rfl); rotate_left; (· simp only [Act.put, sA, sB, sC, i64_w, i32_w]; rfl)
                clear cE_
                refine take_ (i := 1) (N := some 166) (v := ?_) (a' := ?_) #[tt, tt, tt, tt, ff, ff, ff, ff] rfl rfl (take_ofW HT_.out HW_.out (by kernel_rfl)) (fun _ _ _ h => h) (Or.inl ⟨by rfl, ?_⟩) hHeld ?_ ?_
                rotate_left; (· rintro w' ⟨s0, s1, s2, s3, s4, s5, s6⟩; go_simp; with_reducible rfl); rotate_left; (· simp only [Act.put, sA, sB, sC, i64_w, i32_w]; rfl)
                refine take_ (i := 4) (N := some 169) (v := ?_) (a' := ?_) #[tt, tt, tt, tt, tt, ff, ff, ff] rfl rfl (take_ofW HT_.out HW_.out (by kernel_rfl)) (fun _ _ _ h => h) (Or.inl ⟨by rfl, ?_⟩) hHeld ?_ ?_
                rotate_left; (· rintro w' ⟨s0, s1, s2, s3, s4, s5, s6⟩; go_simp; with_reducible rfl); rotate_left; (· simp only [Act.put, sA, sB, sC, i64_w, i32_w]; rfl)
                refine pure_ (i := 5) (N := some 170) (v := ?_) (a' := ?_) #[tt, tt, tt, tt, tt, tt, ff, ff] rfl rfl (any_of HT_.out (by kernel_rfl)) (fun _ _ _ h => h) (Or.inl ⟨by rfl, ?_⟩) ?_ ?_
                rotate_left; (· intro w'; go_simp; with_reducible rfl); rotate_left; (· simp only [Act.put, sA, sB, sC, i64_w, i32_w]; rfl)
                refine pure_ (i := 6) (N := some 171) (v := ?_) (a' := ?_) #[tt, tt, tt, tt, tt, tt, tt, ff] rfl rfl (any_of HT_.out (by kernel_rfl)) (fun _ _ _ h => h) (Or.inl ⟨by rfl, ?_⟩) ?_ ?_
                rotate_left; (· intro w'; go_simp; with_reducible rfl); rotate_left; (· simp only [Act.put, sA, sB, sC, i64_w, i32_w]; rfl)
                refine last_ (i := 7) (N := none) #[tt, tt, tt, tt, tt, tt, tt, tt] rfl rfl (one_of HT_.out (by kernel_rfl)) (by decide) (fun K hK => ?_)
                have hs290 : w289.cell? ⟨gb165, 2, none⟩ = some (.int .i64 ((rd_T33 l0_2 x17_3).f2)) := (blk_cell BK165.out 2).trans rfl
                have hfs290 := blk_frozen BK165.out 2
                have hns290_0 := NB131_165.out
                have hns290_1 := NB137_165.out
                have hms290_0 := NB165_131.out
                have hms290_1 := NB165_137.out
                refine skip_ (w1 := ?_) (by rfl) rfl ?_ ?_
                rotate_left
                ·go_simp
                 rfl
                refine hK.out _ _ ?_
                clear hK K
                refine done_ (done_of HT_.out (by kernel_rfl)) ?_
                have H := Hc269_.out
                clear Hc269_
                by_cases c269 : (wrap64 (((rd_T33 l0_2 x17_3).f2) - x138003_2)) > 0
                rotate_left
                ·rw [if_neg c269] at H
                 have c269b0 : decide (0 < (wrap64 (((rd_T33 l0_2 x17_3).f2) - x138003_2))) = false := decide_eq_false c269
                 clear c269
                 have H' := Aside0.mk H
                 clear H
                 have hcz291_0 : w289.cell? ⟨gb165, 0, none⟩ = some (.int .i64 ((rd_T33 l0_2 x17_3).f0)) := (blk_cell BK165.out 0).trans rfl
                 have hcz291_1 : w289.cell? ⟨gb165, 1, none⟩ = some (.int .i64 ((rd_T33 l0_2 x17_3).f1)) := (blk_cell BK165.out 1).trans rfl
                 have hcz291_2 : w289.cell? ⟨gb165, 2, none⟩ = some (.int .i64 ((rd_T33 l0_2 x17_3).f2)) := (blk_cell BK165.out 2).trans rfl
                 have hfz291_0 := blk_frozen BK165.out 0
                 have hfz291_1 := blk_frozen BK165.out 1
                 have hfz291_2 := blk_frozen BK165.out 2
                 try go_wp2
                 go_roundg kj142
                 case measure => have := HJ3.out; have := HK2.out; have := HK3.out; have := HJ142.out; omega
                 case rel => exact ⟨(x16_3), (wrap64 (x17_3 + 1)), (by first | rfl | (simp; done) | (simp [*]; done)), H', ⟨by have := HJ3.out; have := HK2.out; have := HK3.out; have := HJ142.out; omega⟩, ⟨by (with_reducible repeat (first | apply Kd.S_alloc | apply Kd.S_drewN | apply Kd.S_drew)); exact Kd.S_mono (Kd.S_far (p := ⟨gb165, 2, none⟩) (Kd.S_mono HO_6.out (fun k_ hk => (⟨hk, hk.2.2.2⟩ : _ ∧ k_ ≠ gb165))) (fun _ hk => hk.2) (.int .i64 (wrap64 (((rd_T33 l0_2 x17_3).f2) - x138003_2)))) (fun _ hk => ⟨hk.1.1, ⟨hk.1.2.1, hk.1.2.2.1⟩⟩)⟩, ⟨by (with_reducible repeat (first | apply Kd.R_alloc | apply Kd.R_drewN | apply Kd.R_drew)); exact Kd.R_mono (Kd.R_far (p := ⟨gb165, 2, none⟩) (Kd.R_mono HO_14.out (fun k_ hk => (⟨hk, hk.2⟩ : _ ∧ k_ ≠ gb165))) (fun _ hk => hk.2) (.int .i64 (wrap64 (((rd_T33 l0_2 x17_3).f2) - x138003_2)))) (fun _ hk => hk.1.1)⟩, ⟨by (with_reducible repeat (first | apply Kd.R_alloc | apply Kd.R_drewN | apply Kd.R_drew)); exact Kd.R_mono (Kd.R_far (p := ⟨gb165, 2, none⟩) (Kd.R_mono HO_16.out (fun k_ hk => (⟨hk, hk.2⟩ : _ ∧ k_ ≠ gb165))) (fun _ hk => hk.2) (.int .i64 (wrap64 (((rd_T33 l0_2 x17_3).f2) - x138003_2)))) (fun _ hk => hk.1.1)⟩, ⟨by (with_reducible repeat (first | apply blk_drewN | apply blk_drew | apply blk_alloc)); refine blk_far ?_ NB131_165.out _; (with_reducible repeat (first | apply blk_drewN | apply blk_drew | apply blk_alloc)); exact BK131.out⟩, ⟨by (with_reducible repeat (first | apply blk_drewN | apply blk_drew | apply blk_alloc)); refine blk_far ?_ NB137_165.out _; (with_reducible repeat (first | apply blk_drewN | apply blk_drew | apply blk_alloc)); exact BK137.out⟩, ⟨by repeat (first | (with_reducible first | exact HB.out | apply below_alloc | apply pw_below_drewN | apply below_drew1 | refine below_set ?_ GE131.out | refine below_set ?_ GE137.out | refine below_set ?_ GE165.out) | exact HB.out)⟩⟩
                rw [if_pos c269] at H
                have c269b0 : decide (0 < (wrap64 (((rd_T33 l0_2 x17_3).f2) - x138003_2))) = true := decide_eq_true c269
                clear c269
                by_cases c270 : x16_3.length < 5864062014805
                rotate_left
                ·rw [if_neg c270] at H; exact absurd H (by simp)
                rw [if_pos c270] at H
                have LMc270 := Aside0.mk c270
                clear c270
                obtain ⟨y175, hy175⟩ : ∃ y_ : List (S33), y_ = (x16_3 ++ [(⟨(rd_T33 l0_2 x17_3).f0, (rd_T33 l0_2 x17_3).f1, wrap64 (((rd_T33 l0_2 x17_3).f2) - x138003_2)⟩ : S33)]) := ⟨_, rfl⟩
                replace H : (lawAll.l1 kj142 x6_2 t157 t158 y175 (wrap64 (x17_3 + 1)) a0_0 a0_1 l0_2 x138000_2 x138001_2 x138002_2 x138003_2) = some r := by first | (rw [hy175]; with_reducible exact H) | (have H2_ := (Option.bind_some _ _).symm.trans H; rw [hy175]; with_reducible exact H2_) | (have H2_ := (Option.bind_some _ _).symm.trans H; with_reducible exact H2_) | with_reducible exact H | (rw [hy175]; exact H) | exact H
                have Ny175 := Aside0.mk hy175
                clear hy175
                have H' := Aside0.mk H
                clear H
                have hcz280_0 : w289.cell? ⟨gb165, 0, none⟩ = some (.int .i64 ((rd_T33 l0_2 x17_3).f0)) := (blk_cell BK165.out 0).trans rfl
                have hcz280_1 : w289.cell? ⟨gb165, 1, none⟩ = some (.int .i64 ((rd_T33 l0_2 x17_3).f1)) := (blk_cell BK165.out 1).trans rfl
                have hcz280_2 : w289.cell? ⟨gb165, 2, none⟩ = some (.int .i64 ((rd_T33 l0_2 x17_3).f2)) := (blk_cell BK165.out 2).trans rfl
                have hfz280_0 := blk_frozen BK165.out 0
                have hfz280_1 := blk_frozen BK165.out 1
                have hfz280_2 := blk_frozen BK165.out 2
                try go_wp2_with (first | ((with_reducible refine gate_builtin (b := .append) (xs := #[.tmp 178, .tmp 180]) rfl ?_); (try (refine gate_guard (by rfl) ?_; dsimp only)); at_builtin; refine Kd.R_append k33 (w0 := w) w.heap.size rfl (.tmp 178) (.tmp 180) 23 33 (.agg #[(.int .i64 0), (.int .i64 0), (.int .i64 0)]) 24 rfl Try.underlying23 info33 rfl (by decide) (by omega) u16 x16_3 (⟨(rd_T33 l0_2 x17_3).f0, (rd_T33 l0_2 x17_3).f1, wrap64 (((rd_T33 l0_2 x17_3).f2) - x138003_2)⟩ : S33) [.int .i64 ((rd_T33 l0_2 x17_3).f0), .int .i64 ((rd_T33 l0_2 x17_3).f1), .int .i64 (wrap64 (((rd_T33 l0_2 x17_3).f2) - x138003_2))] (fun k_ => some k_ ≠ (v161 : Value).ownBlock ∧ k_ ≠ gb165) (fun _ => False) rfl (by first | (go_simp; done) | (go_simp; rfl)) ?aP (fun _ hk => hk.elim) ?aF ?aO ?aB ?aS ?aL ?_; (case aP => exact k33_mkM _ _ _ (⟨(rd_T33 l0_2 x17_3).f0, (rd_T33 l0_2 x17_3).f1, wrap64 (((rd_T33 l0_2 x17_3).f2) - x138003_2)⟩ : S33)); (case aB => exact (by repeat (first | (with_reducible first | exact HB.out | apply below_alloc | apply pw_below_drewN | apply below_drew1 | refine below_set ?_ GE131.out | refine below_set ?_ GE137.out | refine below_set ?_ GE165.out) | exact HB.out))); (case aF => exact (fun k_ hk => ⟨Kd.fresh' (Kd.R_lt (by (with_reducible repeat (first | apply Kd.R_alloc | apply Kd.R_drewN | apply Kd.R_drew)); exact (Kd.R_mono (Kd.R_far (p := ⟨gb165, 2, none⟩) (Kd.R_mono HO_14.out (fun k_ hk => (⟨hk, hk.2⟩ : _ ∧ k_ ≠ gb165))) (fun _ hk => hk.2) (.int .i64 (wrap64 (((rd_T33 l0_2 x17_3).f2) - x138003_2)))) (fun _ h_ => h_.1)))) k_ hk, Kd.freshB (g := gb165) (o := .cells #[.int .i64 ((rd_T33 l0_2 x17_3).f0), .int .i64 ((rd_T33 l0_2 x17_3).f1), .int .i64 (wrap64 (((rd_T33 l0_2 x17_3).f2) - x138003_2))] 33 (0, 0)) (by (with_reducible repeat (first | apply blk_drewN | apply blk_drew | apply blk_alloc)); refine blk_put (cs := #[.int .i64 ((rd_T33 l0_2 x17_3).f0), .int .i64 ((rd_T33 l0_2 x17_3).f1), .int .i64 ((rd_T33 l0_2 x17_3).f2)]) ?_ 2 _ rfl; (with_reducible repeat (first | apply blk_drewN | apply blk_drew | apply blk_alloc)); exact BK165.out) k_ hk⟩)); (case aO => exact (by (with_reducible repeat (first | apply Kd.R_alloc | apply Kd.R_drewN | apply Kd.R_drew)); exact Kd.R_mono (Kd.R_far (p := ⟨gb165, 2, none⟩) (Kd.R_mono HO_16.out (fun k_ hk => (⟨hk, hk.2⟩ : _ ∧ k_ ≠ gb165))) (fun _ hk => hk.2) (.int .i64 (wrap64 (((rd_T33 l0_2 x17_3).f2) - x138003_2)))) (fun _ hk => ⟨hk.1.1, hk.1.2⟩))); (case aS => exact (below_size (by repeat (first | (with_reducible first | exact HB.out | apply below_alloc | apply pw_below_drewN | apply below_drew1 | refine below_set ?_ GE131.out | refine below_set ?_ GE137.out | refine below_set ?_ GE165.out) | exact HB.out)))); (case aL => have := LMc270.out; omega); intro v176 w281 ho hb hg hat; rw [← Ny175.out] at ho; have n0_ := Aside0.mk (Kd.S_after (ok := (fun k_ => some k_ ≠ (v161 : Value).ownBlock ∧ k_ ≠ gb131 ∧ k_ ≠ gb165)) (by (with_reducible repeat (first | apply Kd.S_alloc | apply Kd.S_drewN | apply Kd.S_drew)); exact Kd.S_mono (Kd.S_far (p := ⟨gb165, 2, none⟩) (Kd.S_mono HO_6.out (fun k_ hk => (⟨hk, hk.2.2.2⟩ : _ ∧ k_ ≠ gb165))) (fun _ hk => hk.2) (.int .i64 (wrap64 (((rd_T33 l0_2 x17_3).f2) - x138003_2)))) (fun _ hk => ⟨⟨hk.1.1, ⟨hk.1.2.2.1, hk.1.2.2.2⟩⟩, hk.1.2.1⟩)) hg hat); have n1_ := Aside0.mk (Kd.R_after (ok := (fun k_ => k_ ≠ gb165)) (by (with_reducible repeat (first | apply Kd.R_alloc | apply Kd.R_drewN | apply Kd.R_drew)); exact Kd.R_mono (Kd.R_far (p := ⟨gb165, 2, none⟩) (Kd.R_mono HO_14.out (fun k_ hk => (⟨hk, hk.2⟩ : _ ∧ k_ ≠ gb165))) (fun _ hk => hk.2) (.int .i64 (wrap64 (((rd_T33 l0_2 x17_3).f2) - x138003_2)))) (fun _ hk => ⟨hk.1.2, hk.1.1⟩)) hg hat); have n2_ := Aside0.mk (blk_grown (g := gb131) (o := .cells #[.int .i64 a0_0, .int .i64 a0_1, .slice (some ad164) l0_2.length c0_2] 25 (0, 0)) (by (with_reducible repeat (first | apply blk_drewN | apply blk_drew | apply blk_alloc)); refine blk_far ?_ NB131_165.out _; (with_reducible repeat (first | apply blk_drewN | apply blk_drew | apply blk_alloc)); exact BK131.out) hg (Kd.R_ne HO_16.out BK131.out (by decide))); have n3_ := Aside0.mk (blk_grown (g := gb137) (o := .cells #[.int .i64 x138000_2, .int .i64 x138001_2, .int .i64 x138002_2, .int .i64 x138003_2] 41 (0, 0)) (by (with_reducible repeat (first | apply blk_drewN | apply blk_drew | apply blk_alloc)); refine blk_far ?_ NB137_165.out _; (with_reducible repeat (first | apply blk_drewN | apply blk_drew | apply blk_alloc)); exact BK137.out) hg (Kd.R_ne HO_16.out BK137.out (by decide))); have n4_ := Aside0.mk (blk_grown (g := gb165) (o := .cells #[.int .i64 ((rd_T33 l0_2 x17_3).f0), .int .i64 ((rd_T33 l0_2 x17_3).f1), .int .i64 (wrap64 (((rd_T33 l0_2 x17_3).f2) - x138003_2))] 33 (0, 0)) (by (with_reducible repeat (first | apply blk_drewN | apply blk_drew | apply blk_alloc)); refine blk_put (cs := #[.int .i64 ((rd_T33 l0_2 x17_3).f0), .int .i64 ((rd_T33 l0_2 x17_3).f1), .int .i64 ((rd_T33 l0_2 x17_3).f2)]) ?_ 2 _ rfl; (with_reducible repeat (first | apply blk_drewN | apply blk_drew | apply blk_alloc)); exact BK165.out) hg (Kd.R_away HO_16.out (fun _ hk => hk.2))); have n5_ := Aside0.mk (hb); have n6_ := Aside0.mk (ho); clear HO_6; clear HO_14; clear BK131; clear BK137; clear BK165; clear HB; clear HO_16; have HO_6 := n0_; have HO_14 := n1_; have BK131 := n2_; have BK137 := n3_; have BK165 := n4_; have HB := n5_; have HO177 := n6_; clear n0_ n1_ n2_ n3_ n4_ n5_ n6_; clear ho hb hg hat))
                go_roundg kj142
                case measure => have := HJ3.out; have := HK2.out; have := HK3.out; have := HJ142.out; omega
                case rel => exact ⟨(y175), (wrap64 (x17_3 + 1)), (by first | rfl | (simp; done) | (simp [*]; done)), H', ⟨by have := HJ3.out; have := HK2.out; have := HK3.out; have := HJ142.out; omega⟩, ⟨by (with_reducible repeat (first | apply Kd.S_alloc | apply Kd.S_drewN | apply Kd.S_drew)); exact Kd.S_mono HO_6.out (fun _ hk => ⟨hk.1.1, ⟨hk.2, hk.1.2.1⟩⟩)⟩, ⟨by (with_reducible repeat (first | apply Kd.R_alloc | apply Kd.R_drewN | apply Kd.R_drew)); exact Kd.R_mono HO_14.out (fun _ hk => hk.2)⟩, ⟨by (with_reducible repeat (first | apply Kd.R_alloc | apply Kd.R_drewN | apply Kd.R_drew)); exact Kd.R_mono HO177.out (fun _ hk => hk.1)⟩, ⟨by (with_reducible repeat (first | apply blk_drewN | apply blk_drew | apply blk_alloc)); exact BK131.out⟩, ⟨by (with_reducible repeat (first | apply blk_drewN | apply blk_drew | apply blk_alloc)); exact BK137.out⟩, ⟨by repeat (first | (with_reducible first | exact HB.out | apply below_alloc | apply pw_below_drewN | apply below_drew1 | refine below_set ?_ GE131.out | refine below_set ?_ GE137.out | refine below_set ?_ GE165.out) | exact HB.out)⟩⟩
     as_aux_lemma =>
      rw [if_pos c17] at H
      have c17b0 : decide (x9_2 < (l1.length : Int)) = true := decide_eq_true c17
      clear c17
      by_cases c18 : 0 ≤ x9_2
      rotate_left
      ·rw [if_neg c18] at H; exact absurd H (by simp)
      rw [if_pos c18] at H
      have c18b0 : decide (0 ≤ x9_2) = true := decide_eq_true c18
      clear c18
      replace H := Option.bind_eq_some_iff.mp H
      obtain ⟨⟨t140, t143, t144, t145, t146⟩, A190, H⟩ := H
      replace H : (if t146 = 0 then (if ((rd_T43 l1 x9_2).f0) < 0 then (none) else (if ((rd_T43 l1 x9_2).f0) ≥ (l0_2.length : Int) then (none) else (if ((rd_T43 l1 x9_2).f0) > 3 then (none) else (if 0 ≤ ((rd_T43 l1 x9_2).f0) then (if ((rd_T43 l1 x9_2).f0) < (l0_2.length : Int) then (if t143 = ((rd_T33 l0_2 ((rd_T43 l1 x9_2).f0)).f0) then (if t145 = ((rd_T43 l1 x9_2).f1) then (if ((rd_T43 l1 x9_2).f0) = 0 then (lawAll.l0 k2 l1 t140 (wrap64 (x9_2 + 1)) a0_0 a0_1 l0_2 (wrap64 (x138000_2 + t145)) x138001_2 x138002_2 x138003_2) else (if ((rd_T43 l1 x9_2).f0) = 1 then (lawAll.l0 k2 l1 t140 (wrap64 (x9_2 + 1)) a0_0 a0_1 l0_2 x138000_2 (wrap64 (x138001_2 + t145)) x138002_2 x138003_2) else (if ((rd_T43 l1 x9_2).f0) = 2 then (lawAll.l0 k2 l1 t140 (wrap64 (x9_2 + 1)) a0_0 a0_1 l0_2 x138000_2 x138001_2 (wrap64 (x138002_2 + t145)) x138003_2) else (if ((rd_T43 l1 x9_2).f0) = 3 then (lawAll.l0 k2 l1 t140 (wrap64 (x9_2 + 1)) a0_0 a0_1 l0_2 x138000_2 x138001_2 x138002_2 (wrap64 (x138003_2 + t145))) else (none))))) else (none)) else (none)) else (none)) else (none))))) else (lawAll.l0 k2 l1 x6_2 (wrap64 (x9_2 + 1)) a0_0 a0_1 l0_2 x138000_2 x138001_2 x138002_2 x138003_2)) = some r := H
      have A19 := Aside0.mk A190
      clear A190
      have HC20_ := Aside0.mk H
      clear H
      obtain ⟨Ao59, co59, eo59⟩ := Kd.S_slice HO_6.out
      subst eo59
      try go_wp2
      have n0_ := Aside0.mk (Kd.S_drew HO_6.out)
      have n1_ := Aside0.mk (blk_drew BK131.out)
      have n2_ := Aside0.mk (blk_drew BK137.out)
      have n3_ := Aside0.mk (below_drew1 HB.out)
      clear HO_6 BK131 BK137 HB
      have HO_6 := n0_; have BK131 := n1_; have BK137 := n2_; have HB := n3_
      clear n0_ n1_ n2_ n3_
      have p138 : 0 ≤ (x9_2 : Int) := of_decide_eq_true (by first | (with_reducible assumption) | assumption)
      have q138 : x9_2 < (l1.length : Int) := of_decide_eq_true (by first | (with_reducible assumption) | assumption)
      obtain ⟨ad138, e138, hx138_0, hx138_1⟩ := at_T43 HR1.out x9_2 p138 q138
      have hw138_1 := hx138_1
      have hw138_0 := hx138_0
      cases e138
      replace hx138_0 := (HB.out.cell (World.block_lt_of_cell? w _ hx138_0)).trans hx138_0
      replace hx138_1 := (HB.out.cell (World.block_lt_of_cell? w _ hx138_1)).trans hx138_1
      replace p138 := eq_true p138
      replace q138 := eq_true q138
      have p139 : 0 ≤ (x9_2 : Int) := of_decide_eq_true (by first | (with_reducible assumption) | assumption)
      have q139 : x9_2 < (l1.length : Int) := of_decide_eq_true (by first | (with_reducible assumption) | assumption)
      obtain ⟨ad139, e139, hx139_0, hx139_1⟩ := at_T43 HR1.out x9_2 p139 q139
      have hw139_1 := hx139_1
      have hw139_0 := hx139_0
      obtain rfl : ad138 = ad139 := (by injection e139)
      replace hx139_0 := (HB.out.cell (World.block_lt_of_cell? w _ hx139_0)).trans hx139_0
      replace hx139_1 := (HB.out.cell (World.block_lt_of_cell? w _ hx139_1)).trans hx139_1
      replace p139 := eq_true p139
      replace q139 := eq_true q139
      refine start_ (n := 22) (S := fun w' => w'.cell? ⟨gb131, 0, none⟩ = some (.int .i64 a0_0) ∧ w'.cell? ⟨gb131, 1, none⟩ = some (.int .i64 a0_1) ∧ w'.cell? ⟨gb131, 2, none⟩ = some (.slice A0_2 l0_2.length c0_2) ∧ w'.cell? (ad138.add ((x9_2).toNat * 2)) = some (.int .i64 ((rd_T43 l1 x9_2).f0)) ∧ w'.cell? ⟨(ad138.add ((x9_2).toNat * 2)).block, (ad138.add ((x9_2).toNat * 2)).off + 1, none⟩ = some (.int .i64 ((rd_T43 l1 x9_2).f1)) ∧ w'.cell? (ad138.add ((x9_2).toNat * 2)) = some (.int .i64 ((rd_T43 l1 x9_2).f0)) ∧ w'.cell? ⟨(ad138.add ((x9_2).toNat * 2)).block, (ad138.add ((x9_2).toNat * 2)).off + 1, none⟩ = some (.int .i64 ((rd_T43 l1 x9_2).f1))) (ds := []) #[ff, ff, ff, ff, ff, ff, ff, ff, ff, ff, ff, ff, ff, ff, ff, ff, ff, ff, ff, ff, ff, ff] (by kernel_rfl) rfl rfl ⟨(blk_cell BK131.out 0).trans rfl, (blk_cell BK131.out 1).trans rfl, (blk_cell BK131.out 2).trans rfl, ((HB.out.cell (World.block_lt_of_cell? w _ hw138_0)).trans hw138_0), ((HB.out.cell (World.block_lt_of_cell? w _ hw138_1)).trans hw138_1), ((HB.out.cell (World.block_lt_of_cell? w _ hw139_0)).trans hw139_0), ((HB.out.cell (World.block_lt_of_cell? w _ hw139_1)).trans hw139_1)⟩ (fun hHeld => ?_); refine with_tabW lawAll.tab11 lawAll.bits11 (fun HT_ HW_ => ?_)
      generalize wr.drew = w60 at HO_6 BK131 BK137 HB hx138_0 hx138_1 hx139_0 hx139_1 hHeld ⊢
      refine pure_ (i := 0) (N := some 55) (v := ?_) (a' := ?_) #[tt, ff, ff, ff, ff, ff, ff, ff, ff, ff, ff, ff, ff, ff, ff, ff, ff, ff, ff, ff, ff, ff] rfl rfl (any_of HT_.out (by kernel_rfl)) (fun _ _ _ h => h) (Or.inl ⟨by rfl, ?_⟩) ?_ ?_
      rotate_left; (· intro w'; go_simp; with_reducible rfl); rotate_left; (· simp only [Act.put, sA, sB, sC, i64_w, i32_w]; rfl)
      refine pure_ (i := 1) (N := some 56) (v := ?_) (a' := ?_) #[tt, tt, ff, ff, ff, ff, ff, ff, ff, ff, ff, ff, ff, ff, ff, ff, ff, ff, ff, ff, ff, ff] rfl rfl (any_of HT_.out (by kernel_rfl)) (fun _ _ _ h => h) (Or.inl ⟨by rfl, ?_⟩) ?_ ?_
      rotate_left; (· intro w'; go_simp; with_reducible rfl); rotate_left; (· simp only [Act.put, sA, sB, sC, i64_w, i32_w]; rfl)
      refine pure_ (i := 3) (N := some 58) (v := ?_) (a' := ?_) #[tt, tt, ff, tt, ff, ff, ff, ff, ff, ff, ff, ff, ff, ff, ff, ff, ff, ff, ff, ff, ff, ff] rfl rfl (any_of HT_.out (by kernel_rfl)) (fun _ _ _ h => h) (Or.inl ⟨by rfl, ?_⟩) ?_ ?_
      rotate_left; (· intro w'; go_simp; with_reducible rfl); rotate_left; (· simp only [Act.put, sA, sB, sC, i64_w, i32_w]; rfl)
      refine pure_ (i := 4) (N := some 59) (v := ?_) (a' := ?_) #[tt, tt, ff, tt, tt, ff, ff, ff, ff, ff, ff, ff, ff, ff, ff, ff, ff, ff, ff, ff, ff, ff] rfl rfl (any_of HT_.out (by kernel_rfl)) (fun _ _ _ h => h) (Or.inl ⟨by rfl, ?_⟩) ?_ ?_
      rotate_left; (· intro w'; go_simp; with_reducible rfl); rotate_left; (· simp only [Act.put, sA, sB, sC, i64_w, i32_w]; rfl)
      refine pure_ (i := 5) (N := some 60) (v := ?_) (a' := ?_) #[tt, tt, ff, tt, tt, tt, ff, ff, ff, ff, ff, ff, ff, ff, ff, ff, ff, ff, ff, ff, ff, ff] rfl rfl (any_of HT_.out (by kernel_rfl)) (fun _ _ _ h => h) (Or.inl ⟨by rfl, ?_⟩) ?_ ?_
      rotate_left; (· intro w'; go_simp; with_reducible rfl); rotate_left; (· simp only [Act.put, sA, sB, sC, i64_w, i32_w]; rfl)
      refine pure_ (i := 6) (N := some 61) (v := ?_) (a' := ?_) #[tt, tt, ff, tt, tt, tt, tt, ff, ff, ff, ff, ff, ff, ff, ff, ff, ff, ff, ff, ff, ff, ff] rfl rfl (any_of HT_.out (by kernel_rfl)) (fun _ _ _ h => h) (Or.inl ⟨by rfl, ?_⟩) ?_ ?_
      rotate_left; (· intro w'; go_simp; with_reducible rfl); rotate_left; (· simp only [Act.put, sA, sB, sC, i64_w, i32_w]; rfl)
      refine pure_ (i := 8) (N := some 63) (v := ?_) (a' := ?_) #[tt, tt, ff, tt, tt, tt, tt, ff, tt, ff, ff, ff, ff, ff, ff, ff, ff, ff, ff, ff, ff, ff] rfl rfl (any_of HT_.out (by kernel_rfl)) (fun _ _ _ h => h) (Or.inl ⟨by rfl, ?_⟩) ?_ ?_
      rotate_left; (· intro w'; go_simp; with_reducible rfl); rotate_left; (· simp only [Act.put, sA, sB, sC, i64_w, i32_w]; rfl)
      refine pure_ (i := 9) (N := some 64) (v := ?_) (a' := ?_) #[tt, tt, ff, tt, tt, tt, tt, ff, tt, tt, ff, ff, ff, ff, ff, ff, ff, ff, ff, ff, ff, ff] rfl rfl (any_of HT_.out (by kernel_rfl)) (fun _ _ _ h => h) (Or.inl ⟨by rfl, ?_⟩) ?_ ?_
      rotate_left; (· intro w'; go_simp; with_reducible rfl); rotate_left; (· simp only [Act.put, sA, sB, sC, i64_w, i32_w]; rfl)
      refine pure_ (i := 10) (N := some 65) (v := ?_) (a' := ?_) #[tt, tt, ff, tt, tt, tt, tt, ff, tt, tt, tt, ff, ff, ff, ff, ff, ff, ff, ff, ff, ff, ff] rfl rfl (any_of HT_.out (by kernel_rfl)) (fun _ _ _ h => h) (Or.inl ⟨by rfl, ?_⟩) ?_ ?_
      rotate_left; (· intro w'; go_simp; with_reducible rfl); rotate_left; (· simp only [Act.put, sA, sB, sC, i64_w, i32_w]; rfl)
      refine pure_ (i := 11) (N := some 66) (v := ?_) (a' := ?_) #[tt, tt, ff, tt, tt, tt, tt, ff, tt, tt, tt, tt, ff, ff, ff, ff, ff, ff, ff, ff, ff, ff] rfl rfl (any_of HT_.out (by kernel_rfl)) (fun _ _ _ h => h) (Or.inl ⟨by rfl, ?_⟩) ?_ ?_
      rotate_left; (· intro w'; go_simp; with_reducible rfl); rotate_left; (· simp only [Act.put, sA, sB, sC, i64_w, i32_w]; rfl)
      refine take_ (i := 2) (N := some 57) (v := ?_) (a' := ?_) #[tt, tt, tt, tt, tt, tt, tt, ff, tt, tt, tt, tt, ff, ff, ff, ff, ff, ff, ff, ff, ff, ff] rfl rfl (take_ofW HT_.out HW_.out (by kernel_rfl)) (fun _ _ _ h => h) (Or.inl ⟨by rfl, ?_⟩) hHeld ?_ ?_
      rotate_left; (· rintro w' ⟨s0, s1, s2, s3, s4, s5, s6⟩; go_simp; with_reducible rfl); rotate_left; (· simp only [Act.put, sA, sB, sC, i64_w, i32_w]; rfl)
      refine take_ (i := 7) (N := some 62) (v := ?_) (a' := ?_) #[tt, tt, tt, tt, tt, tt, tt, tt, tt, tt, tt, tt, ff, ff, ff, ff, ff, ff, ff, ff, ff, ff] rfl rfl (take_ofW HT_.out HW_.out (by kernel_rfl)) (fun _ _ _ h => h) (Or.inl ⟨by rfl, ?_⟩) hHeld ?_ ?_
      rotate_left; (· rintro w' ⟨s0, s1, s2, s3, s4, s5, s6⟩; go_simp; with_reducible rfl); rotate_left; (· simp only [Act.put, sA, sB, sC, i64_w, i32_w]; rfl)
      refine take_ (i := 12) (N := some 67) (v := ?_) (a' := ?_) #[tt, tt, tt, tt, tt, tt, tt, tt, tt, tt, tt, tt, tt, ff, ff, ff, ff, ff, ff, ff, ff, ff] rfl rfl (take_ofW HT_.out HW_.out (by kernel_rfl)) (fun _ _ _ h => h) (Or.inl ⟨by rfl, ?_⟩) hHeld ?_ ?_
      rotate_left; (· rintro w' ⟨s0, s1, s2, s3, s4, s5, s6⟩; go_simp; with_reducible rfl); rotate_left; (· simp only [Act.put, sA, sB, sC, i64_w, i32_w]; rfl)
      refine join_ (σ := Value × Nat) 3 #[tt, tt, tt, tt, tt, tt, tt, tt, tt, tt, tt, tt, tt, tt, tt, tt, tt, tt, tt, ff, ff, ff] (fun s_ => [(68, .tuple #[s_.1, .agg #[.int .i64 t143, .int .i64 t144, .int .i64 t145], .int .i64 t146]), (11, .pointer (some ⟨s_.2, 0, none⟩)), (54, .tuple #[s_.1, .agg #[.int .i64 t143, .int .i64 t144, .int .i64 t145], .int .i64 t146]), (69, s_.1), (70, .agg #[.int .i64 t143, .int .i64 t144, .int .i64 t145]), (71, .int .i64 t146)]) (fun s_ w' => (w'.cell? ⟨gb131, 0, none⟩ = some (.int .i64 a0_0) ∧ w'.cell? ⟨gb131, 1, none⟩ = some (.int .i64 a0_1) ∧ w'.cell? ⟨gb131, 2, none⟩ = some (.slice A0_2 l0_2.length c0_2) ∧ w'.cell? (ad138.add ((x9_2).toNat * 2)) = some (.int .i64 ((rd_T43 l1 x9_2).f0)) ∧ w'.cell? ⟨(ad138.add ((x9_2).toNat * 2)).block, (ad138.add ((x9_2).toNat * 2)).off + 1, none⟩ = some (.int .i64 ((rd_T43 l1 x9_2).f1)) ∧ w'.cell? (ad138.add ((x9_2).toNat * 2)) = some (.int .i64 ((rd_T43 l1 x9_2).f0)) ∧ w'.cell? ⟨(ad138.add ((x9_2).toNat * 2)).block, (ad138.add ((x9_2).toNat * 2)).off + 1, none⟩ = some (.int .i64 ((rd_T43 l1 x9_2).f1))) ∧ (Kd.S k25 25 w' w.heap.size (fun k_ => some k_ ≠ (.slice Ao59 x6_2.length co59 : Value).ownBlock ∧ k_ ≠ gb131 ∧ k_ ≠ s_.2) s_.1 t140) ∧ (Kd.S k25 25 w' w.heap.size (fun k_ => some k_ ≠ (s_.1 : Value).ownBlock ∧ k_ ≠ gb131 ∧ k_ ≠ s_.2) (.slice Ao59 x6_2.length co59) x6_2) ∧ (w'.heap[gb131]? = some (.cells #[.int .i64 a0_0, .int .i64 a0_1, .slice A0_2 l0_2.length c0_2] 25 (0, 0))) ∧ (w'.heap[gb137]? = some (.cells #[.int .i64 x138000_2, .int .i64 x138001_2, .int .i64 x138002_2, .int .i64 x138003_2] 41 (0, 0))) ∧ (w'.heap[s_.2]? = some (.cells #[.int .i64 0, .int .i64 0, .int .i64 0] 33 (0, 0))) ∧ (w.heap.size ≤ s_.2) ∧ (w.heap.size ≤ s_.2) ∧ (gb131 ≠ s_.2) ∧ (s_.2 ≠ gb131) ∧ (gb137 ≠ s_.2) ∧ (s_.2 ≠ gb137) ∧ (Below w.heap.size w w')) ?_ ?_
      rotate_left
      ·intro hCont
       refine two_ (i := 13) (j := 18) (Ni := some 68) (Nj := some 11) #[tt, tt, tt, tt, tt, tt, tt, tt, tt, tt, tt, tt, tt, tt, ff, ff, ff, ff, ff, ff, ff, ff] #[tt, tt, tt, tt, tt, tt, tt, tt, tt, tt, tt, tt, tt, ff, ff, ff, ff, ff, tt, ff, ff, ff] rfl rfl rfl rfl (two_of HT_.out (by kernel_rfl)) (by decide) (by decide) (fun K hK => ?_) (fun K hK => ?_)
       ·skip
        refine goes_ Try.func12 (by kernel_rfl) rfl #[.slice Ao59 x6_2.length co59, .int .i64 a0_0, .int .i64 ((rd_T43 l1 x9_2).f0), .int .i64 ((rd_T43 l1 x9_2).f1)] (by rfl) rfl rfl (by (try simp only [List.map_toArray, List.map_cons, List.map_nil]); first | done | rfl | (simp only [List.length_drop, List.length_take]; rfl)) ?_
        with_reducible refine (book_Ship.calls _ _ x6_2 a0_0 ((rd_T43 l1 x9_2).f0) ((rd_T43 l1 x9_2).f1) t140 t143 t144 t145 t146 _ ?side1 ?side2 A19.out).mono ?_
        (case side1 => repeat (first | exact (Kd.S_reads' HO_6.out).2.2 | (with_reducible refine Kd.C_alloc ?_ _) | (with_reducible refine Kd.C_drewN ?_ _) | (with_reducible refine Kd.C_drew ?_)))
        (case side2 => exact (Kd.S_reads' HO_6.out).2.1)
        rintro e w61 ⟨v141, rfl, ho0, hb⟩
        refine ⟨_, rfl, ?_⟩
        have n0_ := Aside0.mk (Kd.S_elder' (by (with_reducible repeat (first | apply Kd.S_alloc | apply Kd.S_drewN | apply Kd.S_drew)); exact HO_6.out) (Kd.S_base ho0) hb)
        have n1_ := Aside0.mk (Kd.S_lower (Kd.S_newB (Kd.S_new' ho0 (Kd.S_lt (by (with_reducible repeat (first | apply Kd.S_alloc | apply Kd.S_drewN | apply Kd.S_drew)); exact HO_6.out))) (g := gb131) (o := .cells #[.int .i64 a0_0, .int .i64 a0_1, .slice A0_2 l0_2.length c0_2] 25 (0, 0)) (by (with_reducible repeat (first | apply blk_drewN | apply blk_drew | apply blk_alloc)); exact BK131.out)) (below_size (by repeat (first | (with_reducible first | exact HB.out | apply below_alloc | apply pw_below_drewN | apply below_drew1 | refine below_set ?_ GE131.out | refine below_set ?_ GE137.out) | exact HB.out))))
        have n2_ := Aside0.mk (blk_below (g := gb131) (o := .cells #[.int .i64 a0_0, .int .i64 a0_1, .slice A0_2 l0_2.length c0_2] 25 (0, 0)) (by (with_reducible repeat (first | apply blk_drewN | apply blk_drew | apply blk_alloc)); exact BK131.out) hb)
        have n3_ := Aside0.mk (blk_below (g := gb137) (o := .cells #[.int .i64 x138000_2, .int .i64 x138001_2, .int .i64 x138002_2, .int .i64 x138003_2] 41 (0, 0)) (by (with_reducible repeat (first | apply blk_drewN | apply blk_drew | apply blk_alloc)); exact BK137.out) hb)
        have n4_ := Aside0.mk (below_step (by repeat (first | (with_reducible first | exact HB.out | apply below_alloc | apply pw_below_drewN | apply below_drew1 | refine below_set ?_ GE131.out | refine below_set ?_ GE137.out) | exact HB.out)) hb)
        clear HO_6 BK131 BK137 HB
        have HO_6 := n0_; have HO142 := n1_; have BK131 := n2_; have BK137 := n3_; have HB := n4_
        clear n0_ n1_ n2_ n3_ n4_
        (try clear hb); (try clear hb2); (try clear hk); (try clear hi); (try clear ho0)
        refine hK.out _ _ ⟨(blk_cell BK131.out 0).trans rfl, (blk_cell BK131.out 1).trans rfl, (blk_cell BK131.out 2).trans rfl, ((HB.out.cell (World.block_lt_of_cell? w _ hw138_0)).trans hw138_0), ((HB.out.cell (World.block_lt_of_cell? w _ hw138_1)).trans hw138_1), ((HB.out.cell (World.block_lt_of_cell? w _ hw139_0)).trans hw139_0), ((HB.out.cell (World.block_lt_of_cell? w _ hw139_1)).trans hw139_1)⟩ (fun hHeld => ?_)
        clear hK K
        refine norm_ (a' := ?_) ?_ ?_
        rotate_left
        ·show Act.put _ (some 68) _ = _
         simp only [Act.put, sA, sB, sC, i64_w, i32_w]
         rfl
        refine pure_ (i := 14) (N := some 54) (v := ?_) (a' := ?_) #[tt, tt, tt, tt, tt, tt, tt, tt, tt, tt, tt, tt, tt, tt, tt, ff, ff, ff, ff, ff, ff, ff] rfl rfl (any_of HT_.out (by kernel_rfl)) (fun _ _ _ h => h) (Or.inl ⟨by rfl, ?_⟩) ?_ ?_
        rotate_left; (· intro w'; go_simp; with_reducible rfl); rotate_left; (· simp only [Act.put, sA, sB, sC, i64_w, i32_w]; rfl)
        refine pure_ (i := 15) (N := some 69) (v := ?_) (a' := ?_) #[tt, tt, tt, tt, tt, tt, tt, tt, tt, tt, tt, tt, tt, tt, tt, tt, ff, ff, ff, ff, ff, ff] rfl rfl (any_of HT_.out (by kernel_rfl)) (fun _ _ _ h => h) (Or.inl ⟨by rfl, ?_⟩) ?_ ?_
        rotate_left; (· intro w'; go_simp; with_reducible rfl); rotate_left; (· simp only [Act.put, sA, sB, sC, i64_w, i32_w]; rfl)
        refine pure_ (i := 16) (N := some 70) (v := ?_) (a' := ?_) #[tt, tt, tt, tt, tt, tt, tt, tt, tt, tt, tt, tt, tt, tt, tt, tt, tt, ff, ff, ff, ff, ff] rfl rfl (any_of HT_.out (by kernel_rfl)) (fun _ _ _ h => h) (Or.inl ⟨by rfl, ?_⟩) ?_ ?_
        rotate_left; (· intro w'; go_simp; with_reducible rfl); rotate_left; (· simp only [Act.put, sA, sB, sC, i64_w, i32_w]; rfl)
        refine pure_ (i := 17) (N := some 71) (v := ?_) (a' := ?_) #[tt, tt, tt, tt, tt, tt, tt, tt, tt, tt, tt, tt, tt, tt, tt, tt, tt, tt, ff, ff, ff, ff] rfl rfl (any_of HT_.out (by kernel_rfl)) (fun _ _ _ h => h) (Or.inl ⟨by rfl, ?_⟩) ?_ ?_
        rotate_left; (· intro w'; go_simp; with_reducible rfl); rotate_left; (· simp only [Act.put, sA, sB, sC, i64_w, i32_w]; rfl)
        refine one_ (i := 18) (N := some 11) #[tt, tt, tt, tt, tt, tt, tt, tt, tt, tt, tt, tt, tt, tt, tt, tt, tt, tt, tt, ff, ff, ff] rfl rfl (one_of HT_.out (by kernel_rfl)) (by decide) (fun K hK => ?_)
        refine box_step ?hg (N := 11) ?hd (cs := #[.int .i64 0, .int .i64 0, .int .i64 0]) (t := 33) ?hr ?_; (case hd => rfl); (case hg => rfl); (case hr => first | (go_simp; done) | (go_simp; rfl))
        intro gb147 hg w62 hbox hb
        have n0_ := Aside0.mk (Kd.S_below (Kd.S_elderB (by (with_reducible repeat (first | apply Kd.S_alloc | apply Kd.S_drewN | apply Kd.S_drew)); exact HO_6.out) gb147 (Nat.le_of_eq hg.symm)) hb)
        have n1_ := Aside0.mk (Kd.S_below (Kd.S_elderB (by (with_reducible repeat (first | apply Kd.S_alloc | apply Kd.S_drewN | apply Kd.S_drew)); exact HO142.out) gb147 (Nat.le_of_eq hg.symm)) hb)
        have n2_ := Aside0.mk (blk_below (g := gb131) (o := .cells #[.int .i64 a0_0, .int .i64 a0_1, .slice A0_2 l0_2.length c0_2] 25 (0, 0)) (by (with_reducible repeat (first | apply blk_drewN | apply blk_drew | apply blk_alloc)); exact BK131.out) hb)
        have n3_ := Aside0.mk (blk_below (g := gb137) (o := .cells #[.int .i64 x138000_2, .int .i64 x138001_2, .int .i64 x138002_2, .int .i64 x138003_2] 41 (0, 0)) (by (with_reducible repeat (first | apply blk_drewN | apply blk_drew | apply blk_alloc)); exact BK137.out) hb)
        have n4_ := Aside0.mk (below_step (by repeat (first | (with_reducible first | exact HB.out | apply below_alloc | apply pw_below_drewN | apply below_drew1 | refine below_set ?_ GE131.out | refine below_set ?_ GE137.out) | exact HB.out)) hb)
        have n5_ := Aside0.mk (hbox)
        have n6_ := Aside0.mk ((by rw [hg]; exact (below_size (by repeat (first | (with_reducible first | exact HB.out | apply below_alloc | apply pw_below_drewN | apply below_drew1 | refine below_set ?_ GE131.out | refine below_set ?_ GE137.out) | exact HB.out))) : w.heap.size ≤ gb147))
        have n7_ := Aside0.mk ((by rw [hg]; exact (below_size (by repeat (first | (with_reducible first | exact HB.out | apply below_alloc | apply pw_below_drewN | apply below_drew1 | refine below_set ?_ GE131.out | refine below_set ?_ GE137.out) | exact HB.out))) : w.heap.size ≤ gb147))
        have n8_ := Aside0.mk ((by rw [hg]; exact Nat.ne_of_lt (blk_lt (g := gb131) (o := .cells #[.int .i64 a0_0, .int .i64 a0_1, .slice A0_2 l0_2.length c0_2] 25 (0, 0)) (by (with_reducible repeat (first | apply blk_drewN | apply blk_drew | apply blk_alloc)); exact BK131.out)) : gb131 ≠ gb147))
        have n9_ := Aside0.mk ((by rw [hg]; exact Nat.ne_of_gt (blk_lt (g := gb131) (o := .cells #[.int .i64 a0_0, .int .i64 a0_1, .slice A0_2 l0_2.length c0_2] 25 (0, 0)) (by (with_reducible repeat (first | apply blk_drewN | apply blk_drew | apply blk_alloc)); exact BK131.out)) : gb147 ≠ gb131))
        have n10_ := Aside0.mk ((by rw [hg]; exact Nat.ne_of_lt (blk_lt (g := gb137) (o := .cells #[.int .i64 x138000_2, .int .i64 x138001_2, .int .i64 x138002_2, .int .i64 x138003_2] 41 (0, 0)) (by (with_reducible repeat (first | apply blk_drewN | apply blk_drew | apply blk_alloc)); exact BK137.out)) : gb137 ≠ gb147))
        have n11_ := Aside0.mk ((by rw [hg]; exact Nat.ne_of_gt (blk_lt (g := gb137) (o := .cells #[.int .i64 x138000_2, .int .i64 x138001_2, .int .i64 x138002_2, .int .i64 x138003_2] 41 (0, 0)) (by (with_reducible repeat (first | apply blk_drewN | apply blk_drew | apply blk_alloc)); exact BK137.out)) : gb147 ≠ gb137))
        clear HO_6 HO142 BK131 BK137 HB
        have HO_6 := n0_; have HO142 := n1_; have BK131 := n2_; have BK137 := n3_; have HB := n4_; have BK147 := n5_; have GW147 := n6_; have GE147 := n7_; have NB131_147 := n8_; have NB147_131 := n9_; have NB137_147 := n10_; have NB147_137 := n11_
        clear n0_ n1_ n2_ n3_ n4_ n5_ n6_ n7_ n8_ n9_ n10_ n11_
        clear hb hbox hg
        refine hK.out _ _ ⟨(blk_cell BK131.out 0).trans rfl, (blk_cell BK131.out 1).trans rfl, (blk_cell BK131.out 2).trans rfl, ((HB.out.cell (World.block_lt_of_cell? w _ hw138_0)).trans hw138_0), ((HB.out.cell (World.block_lt_of_cell? w _ hw138_1)).trans hw138_1), ((HB.out.cell (World.block_lt_of_cell? w _ hw139_0)).trans hw139_0), ((HB.out.cell (World.block_lt_of_cell? w _ hw139_1)).trans hw139_1)⟩ (fun hHeld => ?_)
        clear hK K
        refine norm_ (a' := ?_) ?_ ?_
        rotate_left
        ·show Act.put _ (some 11) _ = _
         simp only [Act.put, sA, sB, sC, i64_w, i32_w]
         rfl
        exact norm_ (by simp only [putAll, Act.put, List.setIfInBounds_toArray, List.set_cons_zero, List.set_cons_succ]) (hCont (v141, gb147) _ ⟨hHeld, (by (with_reducible repeat (first | apply Kd.S_alloc | apply Kd.S_drewN | apply Kd.S_drew)); exact Kd.S_mono HO142.out (fun _ hk => ⟨hk.1.1.2, ⟨hk.1.2, hk.2⟩⟩)), (by (with_reducible repeat (first | apply Kd.S_alloc | apply Kd.S_drewN | apply Kd.S_drew)); exact Kd.S_mono HO_6.out (fun _ hk => ⟨hk.1.2, ⟨hk.1.1, hk.2⟩⟩)), (by (with_reducible repeat (first | apply blk_drewN | apply blk_drew | apply blk_alloc)); exact BK131.out), (by (with_reducible repeat (first | apply blk_drewN | apply blk_drew | apply blk_alloc)); exact BK137.out), (by (with_reducible repeat (first | apply blk_drewN | apply blk_drew | apply blk_alloc)); exact BK147.out), GW147.out, GE147.out, NB131_147.out, NB147_131.out, NB137_147.out, NB147_137.out, (by repeat (first | (with_reducible first | exact HB.out | apply below_alloc | apply pw_below_drewN | apply below_drew1 | refine below_set ?_ GE131.out | refine below_set ?_ GE137.out | refine below_set ?_ GE147.out) | exact HB.out))⟩)
       skip
       refine box_step ?hg (N := 11) ?hd (cs := #[.int .i64 0, .int .i64 0, .int .i64 0]) (t := 33) ?hr ?_; (case hd => rfl); (case hg => rfl); (case hr => first | (go_simp; done) | (go_simp; rfl))
       intro gb147 hg w61 hbox hb
       have n0_ := Aside0.mk (Kd.S_below (Kd.S_elderB (by (with_reducible repeat (first | apply Kd.S_alloc | apply Kd.S_drewN | apply Kd.S_drew)); exact HO_6.out) gb147 (Nat.le_of_eq hg.symm)) hb)
       have n1_ := Aside0.mk (blk_below (g := gb131) (o := .cells #[.int .i64 a0_0, .int .i64 a0_1, .slice A0_2 l0_2.length c0_2] 25 (0, 0)) (by (with_reducible repeat (first | apply blk_drewN | apply blk_drew | apply blk_alloc)); exact BK131.out) hb)
       have n2_ := Aside0.mk (blk_below (g := gb137) (o := .cells #[.int .i64 x138000_2, .int .i64 x138001_2, .int .i64 x138002_2, .int .i64 x138003_2] 41 (0, 0)) (by (with_reducible repeat (first | apply blk_drewN | apply blk_drew | apply blk_alloc)); exact BK137.out) hb)
       have n3_ := Aside0.mk (below_step (by repeat (first | (with_reducible first | exact HB.out | apply below_alloc | apply pw_below_drewN | apply below_drew1 | refine below_set ?_ GE131.out | refine below_set ?_ GE137.out) | exact HB.out)) hb)
       have n4_ := Aside0.mk (hbox)
       have n5_ := Aside0.mk ((by rw [hg]; exact (below_size (by repeat (first | (with_reducible first | exact HB.out | apply below_alloc | apply pw_below_drewN | apply below_drew1 | refine below_set ?_ GE131.out | refine below_set ?_ GE137.out) | exact HB.out))) : w.heap.size ≤ gb147))
       have n6_ := Aside0.mk ((by rw [hg]; exact (below_size (by repeat (first | (with_reducible first | exact HB.out | apply below_alloc | apply pw_below_drewN | apply below_drew1 | refine below_set ?_ GE131.out | refine below_set ?_ GE137.out) | exact HB.out))) : w.heap.size ≤ gb147))
       have n7_ := Aside0.mk ((by rw [hg]; exact Nat.ne_of_lt (blk_lt (g := gb131) (o := .cells #[.int .i64 a0_0, .int .i64 a0_1, .slice A0_2 l0_2.length c0_2] 25 (0, 0)) (by (with_reducible repeat (first | apply blk_drewN | apply blk_drew | apply blk_alloc)); exact BK131.out)) : gb131 ≠ gb147))
       have n8_ := Aside0.mk ((by rw [hg]; exact Nat.ne_of_gt (blk_lt (g := gb131) (o := .cells #[.int .i64 a0_0, .int .i64 a0_1, .slice A0_2 l0_2.length c0_2] 25 (0, 0)) (by (with_reducible repeat (first | apply blk_drewN | apply blk_drew | apply blk_alloc)); exact BK131.out)) : gb147 ≠ gb131))
       have n9_ := Aside0.mk ((by rw [hg]; exact Nat.ne_of_lt (blk_lt (g := gb137) (o := .cells #[.int .i64 x138000_2, .int .i64 x138001_2, .int .i64 x138002_2, .int .i64 x138003_2] 41 (0, 0)) (by (with_reducible repeat (first | apply blk_drewN | apply blk_drew | apply blk_alloc)); exact BK137.out)) : gb137 ≠ gb147))
       have n10_ := Aside0.mk ((by rw [hg]; exact Nat.ne_of_gt (blk_lt (g := gb137) (o := .cells #[.int .i64 x138000_2, .int .i64 x138001_2, .int .i64 x138002_2, .int .i64 x138003_2] 41 (0, 0)) (by (with_reducible repeat (first | apply blk_drewN | apply blk_drew | apply blk_alloc)); exact BK137.out)) : gb147 ≠ gb137))
       clear HO_6 BK131 BK137 HB
       have HO_6 := n0_; have BK131 := n1_; have BK137 := n2_; have HB := n3_; have BK147 := n4_; have GW147 := n5_; have GE147 := n6_; have NB131_147 := n7_; have NB147_131 := n8_; have NB137_147 := n9_; have NB147_137 := n10_
       clear n0_ n1_ n2_ n3_ n4_ n5_ n6_ n7_ n8_ n9_ n10_
       clear hb hbox hg
       refine hK.out _ _ ⟨(blk_cell BK131.out 0).trans rfl, (blk_cell BK131.out 1).trans rfl, (blk_cell BK131.out 2).trans rfl, ((HB.out.cell (World.block_lt_of_cell? w _ hw138_0)).trans hw138_0), ((HB.out.cell (World.block_lt_of_cell? w _ hw138_1)).trans hw138_1), ((HB.out.cell (World.block_lt_of_cell? w _ hw139_0)).trans hw139_0), ((HB.out.cell (World.block_lt_of_cell? w _ hw139_1)).trans hw139_1)⟩ (fun hHeld => ?_)
       clear hK K
       refine norm_ (a' := ?_) ?_ ?_
       rotate_left
       ·show Act.put _ (some 11) _ = _
        simp only [Act.put, sA, sB, sC, i64_w, i32_w]
        rfl
       refine one_ (i := 13) (N := some 68) #[tt, tt, tt, tt, tt, tt, tt, tt, tt, tt, tt, tt, tt, tt, ff, ff, ff, ff, tt, ff, ff, ff] rfl rfl (one_of HT_.out (by kernel_rfl)) (by decide) (fun K hK => ?_)
       refine goes_ Try.func12 (by kernel_rfl) rfl #[.slice Ao59 x6_2.length co59, .int .i64 a0_0, .int .i64 ((rd_T43 l1 x9_2).f0), .int .i64 ((rd_T43 l1 x9_2).f1)] (by rfl) rfl rfl (by (try simp only [List.map_toArray, List.map_cons, List.map_nil]); first | done | rfl | (simp only [List.length_drop, List.length_take]; rfl)) ?_
       with_reducible refine (book_Ship.calls _ _ x6_2 a0_0 ((rd_T43 l1 x9_2).f0) ((rd_T43 l1 x9_2).f1) t140 t143 t144 t145 t146 _ ?side1 ?side2 A19.out).mono ?_
       (case side1 => repeat (first | exact (Kd.S_reads' HO_6.out).2.2 | (with_reducible refine Kd.C_alloc ?_ _) | (with_reducible refine Kd.C_drewN ?_ _) | (with_reducible refine Kd.C_drew ?_)))
       (case side2 => exact (Kd.S_reads' HO_6.out).2.1)
       rintro e w62 ⟨v141, rfl, ho0, hb⟩
       refine ⟨_, rfl, ?_⟩
       have n0_ := Aside0.mk (Kd.S_elder' (by (with_reducible repeat (first | apply Kd.S_alloc | apply Kd.S_drewN | apply Kd.S_drew)); exact HO_6.out) (Kd.S_base ho0) hb)
       have n1_ := Aside0.mk (Kd.S_lower (Kd.S_newB (Kd.S_newB (Kd.S_new' ho0 (Kd.S_lt (by (with_reducible repeat (first | apply Kd.S_alloc | apply Kd.S_drewN | apply Kd.S_drew)); exact HO_6.out))) (g := gb131) (o := .cells #[.int .i64 a0_0, .int .i64 a0_1, .slice A0_2 l0_2.length c0_2] 25 (0, 0)) (by (with_reducible repeat (first | apply blk_drewN | apply blk_drew | apply blk_alloc)); exact BK131.out)) (g := gb147) (o := .cells #[.int .i64 0, .int .i64 0, .int .i64 0] 33 (0, 0)) (by (with_reducible repeat (first | apply blk_drewN | apply blk_drew | apply blk_alloc)); exact BK147.out)) (below_size (by repeat (first | (with_reducible first | exact HB.out | apply below_alloc | apply pw_below_drewN | apply below_drew1 | refine below_set ?_ GE131.out | refine below_set ?_ GE137.out | refine below_set ?_ GE147.out) | exact HB.out))))
       have n2_ := Aside0.mk (blk_below (g := gb131) (o := .cells #[.int .i64 a0_0, .int .i64 a0_1, .slice A0_2 l0_2.length c0_2] 25 (0, 0)) (by (with_reducible repeat (first | apply blk_drewN | apply blk_drew | apply blk_alloc)); exact BK131.out) hb)
       have n3_ := Aside0.mk (blk_below (g := gb137) (o := .cells #[.int .i64 x138000_2, .int .i64 x138001_2, .int .i64 x138002_2, .int .i64 x138003_2] 41 (0, 0)) (by (with_reducible repeat (first | apply blk_drewN | apply blk_drew | apply blk_alloc)); exact BK137.out) hb)
       have n4_ := Aside0.mk (blk_below (g := gb147) (o := .cells #[.int .i64 0, .int .i64 0, .int .i64 0] 33 (0, 0)) (by (with_reducible repeat (first | apply blk_drewN | apply blk_drew | apply blk_alloc)); exact BK147.out) hb)
       have n5_ := Aside0.mk (below_step (by repeat (first | (with_reducible first | exact HB.out | apply below_alloc | apply pw_below_drewN | apply below_drew1 | refine below_set ?_ GE131.out | refine below_set ?_ GE137.out | refine below_set ?_ GE147.out) | exact HB.out)) hb)
       clear HO_6 BK131 BK137 BK147 HB
       have HO_6 := n0_; have HO142 := n1_; have BK131 := n2_; have BK137 := n3_; have BK147 := n4_; have HB := n5_
       clear n0_ n1_ n2_ n3_ n4_ n5_
       (try clear hb); (try clear hb2); (try clear hk); (try clear hi); (try clear ho0)
       refine hK.out _ _ ⟨(blk_cell BK131.out 0).trans rfl, (blk_cell BK131.out 1).trans rfl, (blk_cell BK131.out 2).trans rfl, ((HB.out.cell (World.block_lt_of_cell? w _ hw138_0)).trans hw138_0), ((HB.out.cell (World.block_lt_of_cell? w _ hw138_1)).trans hw138_1), ((HB.out.cell (World.block_lt_of_cell? w _ hw139_0)).trans hw139_0), ((HB.out.cell (World.block_lt_of_cell? w _ hw139_1)).trans hw139_1)⟩ (fun hHeld => ?_)
       clear hK K
       refine norm_ (a' := ?_) ?_ ?_
       rotate_left
       ·show Act.put _ (some 68) _ = _
        simp only [Act.put, sA, sB, sC, i64_w, i32_w]
        rfl
       refine pure_ (i := 14) (N := some 54) (v := ?_) (a' := ?_) #[tt, tt, tt, tt, tt, tt, tt, tt, tt, tt, tt, tt, tt, tt, tt, ff, ff, ff, tt, ff, ff, ff] rfl rfl (any_of HT_.out (by kernel_rfl)) (fun _ _ _ h => h) (Or.inl ⟨by rfl, ?_⟩) ?_ ?_
       rotate_left; (· intro w'; go_simp; with_reducible rfl); rotate_left; (· simp only [Act.put, sA, sB, sC, i64_w, i32_w]; rfl)
       refine pure_ (i := 15) (N := some 69) (v := ?_) (a' := ?_) #[tt, tt, tt, tt, tt, tt, tt, tt, tt, tt, tt, tt, tt, tt, tt, tt, ff, ff, tt, ff, ff, ff] rfl rfl (any_of HT_.out (by kernel_rfl)) (fun _ _ _ h => h) (Or.inl ⟨by rfl, ?_⟩) ?_ ?_
       rotate_left; (· intro w'; go_simp; with_reducible rfl); rotate_left; (· simp only [Act.put, sA, sB, sC, i64_w, i32_w]; rfl)
       refine pure_ (i := 16) (N := some 70) (v := ?_) (a' := ?_) #[tt, tt, tt, tt, tt, tt, tt, tt, tt, tt, tt, tt, tt, tt, tt, tt, tt, ff, tt, ff, ff, ff] rfl rfl (any_of HT_.out (by kernel_rfl)) (fun _ _ _ h => h) (Or.inl ⟨by rfl, ?_⟩) ?_ ?_
       rotate_left; (· intro w'; go_simp; with_reducible rfl); rotate_left; (· simp only [Act.put, sA, sB, sC, i64_w, i32_w]; rfl)
       refine pure_ (i := 17) (N := some 71) (v := ?_) (a' := ?_) #[tt, tt, tt, tt, tt, tt, tt, tt, tt, tt, tt, tt, tt, tt, tt, tt, tt, tt, tt, ff, ff, ff] rfl rfl (any_of HT_.out (by kernel_rfl)) (fun _ _ _ h => h) (Or.inl ⟨by rfl, ?_⟩) ?_ ?_
       rotate_left; (· intro w'; go_simp; with_reducible rfl); rotate_left; (· simp only [Act.put, sA, sB, sC, i64_w, i32_w]; rfl)
       exact norm_ (by simp only [putAll, Act.put, List.setIfInBounds_toArray, List.set_cons_zero, List.set_cons_succ]) (hCont (v141, gb147) _ ⟨hHeld, (by (with_reducible repeat (first | apply Kd.S_alloc | apply Kd.S_drewN | apply Kd.S_drew)); exact Kd.S_mono HO142.out (fun _ hk => ⟨hk.1.1.2, ⟨hk.1.2, hk.2⟩⟩)), (by (with_reducible repeat (first | apply Kd.S_alloc | apply Kd.S_drewN | apply Kd.S_drew)); exact Kd.S_mono HO_6.out (fun _ hk => ⟨hk.2, ⟨hk.1.1, hk.1.2⟩⟩)), (by (with_reducible repeat (first | apply blk_drewN | apply blk_drew | apply blk_alloc)); exact BK131.out), (by (with_reducible repeat (first | apply blk_drewN | apply blk_drew | apply blk_alloc)); exact BK137.out), (by (with_reducible repeat (first | apply blk_drewN | apply blk_drew | apply blk_alloc)); exact BK147.out), GW147.out, GE147.out, NB131_147.out, NB147_131.out, NB137_147.out, NB147_137.out, (by repeat (first | (with_reducible first | exact HB.out | apply below_alloc | apply pw_below_drewN | apply below_drew1 | refine below_set ?_ GE131.out | refine below_set ?_ GE137.out | refine below_set ?_ GE147.out) | exact HB.out))⟩)
      rintro ⟨v141, gb147⟩ w63 ⟨hS_, h0_, h1_, h2_, h3_, h4_, h5_, h6_, h7_, h8_, h9_, h10_, h11_⟩
      have n0_ : Aside0 (Kd.S k25 25 w63 w.heap.size (fun k_ => some k_ ≠ (.slice Ao59 x6_2.length co59 : Value).ownBlock ∧ k_ ≠ gb131 ∧ k_ ≠ gb147) v141 t140) := ⟨h0_⟩
      have n1_ : Aside0 (Kd.S k25 25 w63 w.heap.size (fun k_ => some k_ ≠ (v141 : Value).ownBlock ∧ k_ ≠ gb131 ∧ k_ ≠ gb147) (.slice Ao59 x6_2.length co59) x6_2) := ⟨h1_⟩
      have n2_ : Aside0 (w63.heap[gb131]? = some (.cells #[.int .i64 a0_0, .int .i64 a0_1, .slice A0_2 l0_2.length c0_2] 25 (0, 0))) := ⟨h2_⟩
      have n3_ : Aside0 (w63.heap[gb137]? = some (.cells #[.int .i64 x138000_2, .int .i64 x138001_2, .int .i64 x138002_2, .int .i64 x138003_2] 41 (0, 0))) := ⟨h3_⟩
      have n4_ : Aside0 (w63.heap[gb147]? = some (.cells #[.int .i64 0, .int .i64 0, .int .i64 0] 33 (0, 0))) := ⟨h4_⟩
      have n5_ : Aside0 (w.heap.size ≤ gb147) := ⟨h5_⟩
      have n6_ : Aside0 (w.heap.size ≤ gb147) := ⟨h6_⟩
      have n7_ : Aside0 (gb131 ≠ gb147) := ⟨h7_⟩
      have n8_ : Aside0 (gb147 ≠ gb131) := ⟨h8_⟩
      have n9_ : Aside0 (gb137 ≠ gb147) := ⟨h9_⟩
      have n10_ : Aside0 (gb147 ≠ gb137) := ⟨h10_⟩
      have n11_ : Aside0 (Below w.heap.size w w63) := ⟨h11_⟩
      clear HO_6 BK131 BK137 HB
      clear h0_ h1_ h2_ h3_ h4_ h5_ h6_ h7_ h8_ h9_ h10_ h11_
      have HO142 := n0_; have HO_6 := n1_; have BK131 := n2_; have BK137 := n3_; have BK147 := n4_; have GW147 := n5_; have GE147 := n6_; have NB131_147 := n7_; have NB147_131 := n8_; have NB137_147 := n9_; have NB147_137 := n10_; have HB := n11_
      clear n0_ n1_ n2_ n3_ n4_ n5_ n6_ n7_ n8_ n9_ n10_ n11_
      have hHeld : w63.cell? ⟨gb131, 0, none⟩ = some (.int .i64 a0_0) ∧ w63.cell? ⟨gb131, 1, none⟩ = some (.int .i64 a0_1) ∧ w63.cell? ⟨gb131, 2, none⟩ = some (.slice A0_2 l0_2.length c0_2) ∧ w63.cell? (ad138.add ((x9_2).toNat * 2)) = some (.int .i64 ((rd_T43 l1 x9_2).f0)) ∧ w63.cell? ⟨(ad138.add ((x9_2).toNat * 2)).block, (ad138.add ((x9_2).toNat * 2)).off + 1, none⟩ = some (.int .i64 ((rd_T43 l1 x9_2).f1)) ∧ w63.cell? (ad138.add ((x9_2).toNat * 2)) = some (.int .i64 ((rd_T43 l1 x9_2).f0)) ∧ w63.cell? ⟨(ad138.add ((x9_2).toNat * 2)).block, (ad138.add ((x9_2).toNat * 2)).off + 1, none⟩ = some (.int .i64 ((rd_T43 l1 x9_2).f1)) := hS_
      refine norm_ (a' := ?_) ?_ ?_
      rotate_left
      ·simp only [putAll, Act.put, List.setIfInBounds_toArray, List.set_cons_zero, List.set_cons_succ]
       rfl
      refine pure_ (i := 19) (N := some 10) (v := ?_) (a' := ?_) #[tt, tt, tt, tt, tt, tt, tt, tt, tt, tt, tt, tt, tt, tt, tt, tt, tt, tt, tt, tt, ff, ff] rfl rfl (any_of HT_.out (by kernel_rfl)) (fun _ _ _ h => h) (Or.inl ⟨by rfl, ?_⟩) ?_ ?_
      rotate_left; (· intro w'; go_simp; with_reducible rfl); rotate_left; (· simp only [Act.put, sA, sB, sC, i64_w, i32_w]; rfl)
      refine one_ (i := 20) (N := none) #[tt, tt, tt, tt, tt, tt, tt, tt, tt, tt, tt, tt, tt, tt, tt, tt, tt, tt, tt, tt, tt, ff] rfl rfl (one_of HT_.out (by kernel_rfl)) (by decide) (fun K hK => ?_)
      have hs64 : w63.cell? ⟨gb147, 0, none⟩ = some (.int .i64 0) := (blk_cell BK147.out 0).trans rfl
      have hfs64 := blk_frozen BK147.out 0
      have hns64_0 := NB131_147.out
      have hns64_1 := NB137_147.out
      have hms64_0 := NB147_131.out
      have hms64_1 := NB147_137.out
      have hs65 : w63.cell? ⟨gb147, 1, none⟩ = some (.int .i64 0) := (blk_cell BK147.out 1).trans rfl
      have hfs65 := blk_frozen BK147.out 1
      have hns65_0 := NB131_147.out
      have hns65_1 := NB137_147.out
      have hms65_0 := NB147_131.out
      have hms65_1 := NB147_137.out
      have hs66 : w63.cell? ⟨gb147, 2, none⟩ = some (.int .i64 0) := (blk_cell BK147.out 2).trans rfl
      have hfs66 := blk_frozen BK147.out 2
      have hns66_0 := NB131_147.out
      have hns66_1 := NB137_147.out
      have hms66_0 := NB147_131.out
      have hms66_1 := NB147_137.out
      refine skip_ (w1 := ?_) (by rfl) rfl ?_ ?_
      rotate_left
      ·go_simp
       rfl
      refine hK.out _ _ ⟨((cell_far (p := ⟨gb147, _, none⟩) NB131_147.out _).trans (((cell_far (p := ⟨gb147, _, none⟩) NB131_147.out _).trans (((cell_far (p := ⟨gb147, _, none⟩) NB131_147.out _).trans (hHeld.1)))))), ((cell_far (p := ⟨gb147, _, none⟩) NB131_147.out _).trans (((cell_far (p := ⟨gb147, _, none⟩) NB131_147.out _).trans (((cell_far (p := ⟨gb147, _, none⟩) NB131_147.out _).trans (hHeld.2.1)))))), ((cell_far (p := ⟨gb147, _, none⟩) NB131_147.out _).trans (((cell_far (p := ⟨gb147, _, none⟩) NB131_147.out _).trans (((cell_far (p := ⟨gb147, _, none⟩) NB131_147.out _).trans (hHeld.2.2.1)))))), ((cell_far (p := ⟨gb147, _, none⟩) (by first | exact Nat.ne_of_lt (Nat.lt_of_lt_of_le (by have := World.block_lt_of_cell? _ _ hw138_0; first | rwa [add_block] at this | exact this) GW147.out) | (rw [add_block]; exact Nat.ne_of_lt (Nat.lt_of_lt_of_le (by have := World.block_lt_of_cell? _ _ hw138_0; first | rwa [add_block] at this | exact this) GW147.out)) | (show (Addr.add _ _).block ≠ _; rw [add_block]; exact Nat.ne_of_lt (Nat.lt_of_lt_of_le (by have := World.block_lt_of_cell? _ _ hw138_0; first | rwa [add_block] at this | exact this) GW147.out)) | (dsimp only; exact Nat.ne_of_lt (Nat.lt_of_lt_of_le (by have := World.block_lt_of_cell? _ _ hw138_0; first | rwa [add_block] at this | exact this) GW147.out))) _).trans (((cell_far (p := ⟨gb147, _, none⟩) (by first | exact Nat.ne_of_lt (Nat.lt_of_lt_of_le (by have := World.block_lt_of_cell? _ _ hw138_0; first | rwa [add_block] at this | exact this) GW147.out) | (rw [add_block]; exact Nat.ne_of_lt (Nat.lt_of_lt_of_le (by have := World.block_lt_of_cell? _ _ hw138_0; first | rwa [add_block] at this | exact this) GW147.out)) | (show (Addr.add _ _).block ≠ _; rw [add_block]; exact Nat.ne_of_lt (Nat.lt_of_lt_of_le (by have := World.block_lt_of_cell? _ _ hw138_0; first | rwa [add_block] at this | exact this) GW147.out)) | (dsimp only; exact Nat.ne_of_lt (Nat.lt_of_lt_of_le (by have := World.block_lt_of_cell? _ _ hw138_0; first | rwa [add_block] at this | exact this) GW147.out))) _).trans (((cell_far (p := ⟨gb147, _, none⟩) (by first | exact Nat.ne_of_lt (Nat.lt_of_lt_of_le (by have := World.block_lt_of_cell? _ _ hw138_0; first | rwa [add_block] at this | exact this) GW147.out) | (rw [add_block]; exact Nat.ne_of_lt (Nat.lt_of_lt_of_le (by have := World.block_lt_of_cell? _ _ hw138_0; first | rwa [add_block] at this | exact this) GW147.out)) | (show (Addr.add _ _).block ≠ _; rw [add_block]; exact Nat.ne_of_lt (Nat.lt_of_lt_of_le (by have := World.block_lt_of_cell? _ _ hw138_0; first | rwa [add_block] at this | exact this) GW147.out)) | (dsimp only; exact Nat.ne_of_lt (Nat.lt_of_lt_of_le (by have := World.block_lt_of_cell? _ _ hw138_0; first | rwa [add_block] at this | exact this) GW147.out))) _).trans (hHeld.2.2.2.1)))))), ((cell_far (p := ⟨gb147, _, none⟩) (by first | exact Nat.ne_of_lt (Nat.lt_of_lt_of_le (by have := World.block_lt_of_cell? _ _ hw138_1; first | rwa [add_block] at this | exact this) GW147.out) | (rw [add_block]; exact Nat.ne_of_lt (Nat.lt_of_lt_of_le (by have := World.block_lt_of_cell? _ _ hw138_1; first | rwa [add_block] at this | exact this) GW147.out)) | (show (Addr.add _ _).block ≠ _; rw [add_block]; exact Nat.ne_of_lt (Nat.lt_of_lt_of_le (by have := World.block_lt_of_cell? _ _ hw138_1; first | rwa [add_block] at this | exact this) GW147.out)) | (dsimp only; exact Nat.ne_of_lt (Nat.lt_of_lt_of_le (by have := World.block_lt_of_cell? _ _ hw138_1; first | rwa [add_block] at this | exact this) GW147.out))) _).trans (((cell_far (p := ⟨gb147, _, none⟩) (by first | exact Nat.ne_of_lt (Nat.lt_of_lt_of_le (by have := World.block_lt_of_cell? _ _ hw138_1; first | rwa [add_block] at this | exact this) GW147.out) | (rw [add_block]; exact Nat.ne_of_lt (Nat.lt_of_lt_of_le (by have := World.block_lt_of_cell? _ _ hw138_1; first | rwa [add_block] at this | exact this) GW147.out)) | (show (Addr.add _ _).block ≠ _; rw [add_block]; exact Nat.ne_of_lt (Nat.lt_of_lt_of_le (by have := World.block_lt_of_cell? _ _ hw138_1; first | rwa [add_block] at this | exact this) GW147.out)) | (dsimp only; exact Nat.ne_of_lt (Nat.lt_of_lt_of_le (by have := World.block_lt_of_cell? _ _ hw138_1; first | rwa [add_block] at this | exact this) GW147.out))) _).trans (((cell_far (p := ⟨gb147, _, none⟩) (by first | exact Nat.ne_of_lt (Nat.lt_of_lt_of_le (by have := World.block_lt_of_cell? _ _ hw138_1; first | rwa [add_block] at this | exact this) GW147.out) | (rw [add_block]; exact Nat.ne_of_lt (Nat.lt_of_lt_of_le (by have := World.block_lt_of_cell? _ _ hw138_1; first | rwa [add_block] at this | exact this) GW147.out)) | (show (Addr.add _ _).block ≠ _; rw [add_block]; exact Nat.ne_of_lt (Nat.lt_of_lt_of_le (by have := World.block_lt_of_cell? _ _ hw138_1; first | rwa [add_block] at this | exact this) GW147.out)) | (dsimp only; exact Nat.ne_of_lt (Nat.lt_of_lt_of_le (by have := World.block_lt_of_cell? _ _ hw138_1; first | rwa [add_block] at this | exact this) GW147.out))) _).trans (hHeld.2.2.2.2.1)))))), ((cell_far (p := ⟨gb147, _, none⟩) (by first | exact Nat.ne_of_lt (Nat.lt_of_lt_of_le (by have := World.block_lt_of_cell? _ _ hw139_0; first | rwa [add_block] at this | exact this) GW147.out) | (rw [add_block]; exact Nat.ne_of_lt (Nat.lt_of_lt_of_le (by have := World.block_lt_of_cell? _ _ hw139_0; first | rwa [add_block] at this | exact this) GW147.out)) | (show (Addr.add _ _).block ≠ _; rw [add_block]; exact Nat.ne_of_lt (Nat.lt_of_lt_of_le (by have := World.block_lt_of_cell? _ _ hw139_0; first | rwa [add_block] at this | exact this) GW147.out)) | (dsimp only; exact Nat.ne_of_lt (Nat.lt_of_lt_of_le (by have := World.block_lt_of_cell? _ _ hw139_0; first | rwa [add_block] at this | exact this) GW147.out))) _).trans (((cell_far (p := ⟨gb147, _, none⟩) (by first | exact Nat.ne_of_lt (Nat.lt_of_lt_of_le (by have := World.block_lt_of_cell? _ _ hw139_0; first | rwa [add_block] at this | exact this) GW147.out) | (rw [add_block]; exact Nat.ne_of_lt (Nat.lt_of_lt_of_le (by have := World.block_lt_of_cell? _ _ hw139_0; first | rwa [add_block] at this | exact this) GW147.out)) | (show (Addr.add _ _).block ≠ _; rw [add_block]; exact Nat.ne_of_lt (Nat.lt_of_lt_of_le (by have := World.block_lt_of_cell? _ _ hw139_0; first | rwa [add_block] at this | exact this) GW147.out)) | (dsimp only; exact Nat.ne_of_lt (Nat.lt_of_lt_of_le (by have := World.block_lt_of_cell? _ _ hw139_0; first | rwa [add_block] at this | exact this) GW147.out))) _).trans (((cell_far (p := ⟨gb147, _, none⟩) (by first | exact Nat.ne_of_lt (Nat.lt_of_lt_of_le (by have := World.block_lt_of_cell? _ _ hw139_0; first | rwa [add_block] at this | exact this) GW147.out) | (rw [add_block]; exact Nat.ne_of_lt (Nat.lt_of_lt_of_le (by have := World.block_lt_of_cell? _ _ hw139_0; first | rwa [add_block] at this | exact this) GW147.out)) | (show (Addr.add _ _).block ≠ _; rw [add_block]; exact Nat.ne_of_lt (Nat.lt_of_lt_of_le (by have := World.block_lt_of_cell? _ _ hw139_0; first | rwa [add_block] at this | exact this) GW147.out)) | (dsimp only; exact Nat.ne_of_lt (Nat.lt_of_lt_of_le (by have := World.block_lt_of_cell? _ _ hw139_0; first | rwa [add_block] at this | exact this) GW147.out))) _).trans (hHeld.2.2.2.2.2.1)))))), ((cell_far (p := ⟨gb147, _, none⟩) (by first | exact Nat.ne_of_lt (Nat.lt_of_lt_of_le (by have := World.block_lt_of_cell? _ _ hw139_1; first | rwa [add_block] at this | exact this) GW147.out) | (rw [add_block]; exact Nat.ne_of_lt (Nat.lt_of_lt_of_le (by have := World.block_lt_of_cell? _ _ hw139_1; first | rwa [add_block] at this | exact this) GW147.out)) | (show (Addr.add _ _).block ≠ _; rw [add_block]; exact Nat.ne_of_lt (Nat.lt_of_lt_of_le (by have := World.block_lt_of_cell? _ _ hw139_1; first | rwa [add_block] at this | exact this) GW147.out)) | (dsimp only; exact Nat.ne_of_lt (Nat.lt_of_lt_of_le (by have := World.block_lt_of_cell? _ _ hw139_1; first | rwa [add_block] at this | exact this) GW147.out))) _).trans (((cell_far (p := ⟨gb147, _, none⟩) (by first | exact Nat.ne_of_lt (Nat.lt_of_lt_of_le (by have := World.block_lt_of_cell? _ _ hw139_1; first | rwa [add_block] at this | exact this) GW147.out) | (rw [add_block]; exact Nat.ne_of_lt (Nat.lt_of_lt_of_le (by have := World.block_lt_of_cell? _ _ hw139_1; first | rwa [add_block] at this | exact this) GW147.out)) | (show (Addr.add _ _).block ≠ _; rw [add_block]; exact Nat.ne_of_lt (Nat.lt_of_lt_of_le (by have := World.block_lt_of_cell? _ _ hw139_1; first | rwa [add_block] at this | exact this) GW147.out)) | (dsimp only; exact Nat.ne_of_lt (Nat.lt_of_lt_of_le (by have := World.block_lt_of_cell? _ _ hw139_1; first | rwa [add_block] at this | exact this) GW147.out))) _).trans (((cell_far (p := ⟨gb147, _, none⟩) (by first | exact Nat.ne_of_lt (Nat.lt_of_lt_of_le (by have := World.block_lt_of_cell? _ _ hw139_1; first | rwa [add_block] at this | exact this) GW147.out) | (rw [add_block]; exact Nat.ne_of_lt (Nat.lt_of_lt_of_le (by have := World.block_lt_of_cell? _ _ hw139_1; first | rwa [add_block] at this | exact this) GW147.out)) | (show (Addr.add _ _).block ≠ _; rw [add_block]; exact Nat.ne_of_lt (Nat.lt_of_lt_of_le (by have := World.block_lt_of_cell? _ _ hw139_1; first | rwa [add_block] at this | exact this) GW147.out)) | (dsimp only; exact Nat.ne_of_lt (Nat.lt_of_lt_of_le (by have := World.block_lt_of_cell? _ _ hw139_1; first | rwa [add_block] at this | exact this) GW147.out))) _).trans (hHeld.2.2.2.2.2.2))))))⟩ (fun hHeld => ?_)
      clear hK K
      refine pure_ (i := 21) (N := some 12) (v := ?_) (a' := ?_) #[tt, tt, tt, tt, tt, tt, tt, tt, tt, tt, tt, tt, tt, tt, tt, tt, tt, tt, tt, tt, tt, tt] rfl rfl (any_of HT_.out (by kernel_rfl)) (fun _ _ _ h => h) (Or.inl ⟨by rfl, ?_⟩) ?_ ?_
      rotate_left; (· intro w'; go_simp; with_reducible rfl); rotate_left; (· simp only [Act.put, sA, sB, sC, i64_w, i32_w]; rfl)
      refine done_ (done_of HT_.out (by kernel_rfl)) ?_
      have H := HC20_.out
      clear HC20_
      by_cases c20 : t146 = 0
      rotate_left
      ·as_aux_lemma =>
        rw [if_neg c20] at H
        have c20b0 : (t146 == 0) = false := beq_eq_false_iff_ne.mpr c20
        have c20b1 : (t146 != 0) = true := bne_iff_ne.mpr c20
        have H' := Aside0.mk H
        clear H
        try go_wp2
        go_roundg k2
        case measure => have := HJ3.out; have := HK2.out; omega
        case rel => exact ⟨(x6_2), (wrap64 (x9_2 + 1)), (x138000_2), (x138001_2), (x138002_2), (x138003_2), (by first | rfl | (simp; done) | (simp [*]; done)), H', ⟨by have := HJ3.out; have := HK2.out; omega⟩, ⟨by (with_reducible repeat (first | apply Kd.S_alloc | apply Kd.S_drewN | apply Kd.S_drew)); exact Kd.S_mono (Kd.S_far (p := ⟨gb147, 2, none⟩) (Kd.S_far (p := ⟨gb147, 1, none⟩) (Kd.S_far (p := ⟨gb147, 0, none⟩) (Kd.S_mono HO_6.out (fun k_ hk => (⟨hk, hk.2.2⟩ : _ ∧ k_ ≠ gb147))) (fun _ hk => hk.2) (.int .i64 t143)) (fun _ hk => hk.2) (.int .i64 t144)) (fun _ hk => hk.2) (.int .i64 t145)) (fun _ hk => hk.1.2.1)⟩, ⟨by (with_reducible repeat (first | apply blk_drewN | apply blk_drew | apply blk_alloc)); refine blk_far ?_ NB131_147.out _; (with_reducible repeat (first | apply blk_drewN | apply blk_drew | apply blk_alloc)); refine blk_far ?_ NB131_147.out _; (with_reducible repeat (first | apply blk_drewN | apply blk_drew | apply blk_alloc)); refine blk_far ?_ NB131_147.out _; (with_reducible repeat (first | apply blk_drewN | apply blk_drew | apply blk_alloc)); exact BK131.out⟩, ⟨by (with_reducible repeat (first | apply blk_drewN | apply blk_drew | apply blk_alloc)); refine blk_far ?_ NB137_147.out _; (with_reducible repeat (first | apply blk_drewN | apply blk_drew | apply blk_alloc)); refine blk_far ?_ NB137_147.out _; (with_reducible repeat (first | apply blk_drewN | apply blk_drew | apply blk_alloc)); refine blk_far ?_ NB137_147.out _; (with_reducible repeat (first | apply blk_drewN | apply blk_drew | apply blk_alloc)); exact BK137.out⟩, ⟨by repeat (first | (with_reducible first | exact HB.out | apply below_alloc | apply pw_below_drewN | apply below_drew1 | refine below_set ?_ GE131.out | refine below_set ?_ GE137.out | refine below_set ?_ GE147.out) | exact HB.out)⟩⟩
      as_aux_lemma =>
       rw [if_pos c20] at H
       have c20b0 : (t146 == 0) = true := beq_iff_eq.mpr c20
       have c20b1 : (t146 != 0) = false := bne_eq_false_iff_eq.mpr c20
       clear c20
       by_cases c21 : ((rd_T43 l1 x9_2).f0) < 0
       ·rw [if_pos c21] at H; exact absurd H (by simp)
       rw [if_neg c21] at H
       have c21b0 : decide (((rd_T43 l1 x9_2).f0) < 0) = false := decide_eq_false c21
       clear c21
       by_cases c32 : ((rd_T43 l1 x9_2).f0) ≥ (l0_2.length : Int)
       ·rw [if_pos c32] at H; exact absurd H (by simp)
       rw [if_neg c32] at H
       have c32b0 : decide ((l0_2.length : Int) ≤ ((rd_T43 l1 x9_2).f0)) = false := decide_eq_false c32
       clear c32
       by_cases c43 : ((rd_T43 l1 x9_2).f0) > 3
       ·rw [if_pos c43] at H; exact absurd H (by simp)
       rw [if_neg c43] at H
       have c43b0 : decide (3 < ((rd_T43 l1 x9_2).f0)) = false := decide_eq_false c43
       clear c43
       by_cases c54 : 0 ≤ ((rd_T43 l1 x9_2).f0)
       rotate_left
       ·rw [if_neg c54] at H; exact absurd H (by simp)
       rw [if_pos c54] at H
       have c54b0 : decide (0 ≤ ((rd_T43 l1 x9_2).f0)) = true := decide_eq_true c54
       clear c54
       by_cases c55 : ((rd_T43 l1 x9_2).f0) < (l0_2.length : Int)
       rotate_left
       ·rw [if_neg c55] at H; exact absurd H (by simp)
       rw [if_pos c55] at H
       have c55b0 : decide (((rd_T43 l1 x9_2).f0) < (l0_2.length : Int)) = true := decide_eq_true c55
       clear c55
       by_cases c56 : t143 = ((rd_T33 l0_2 ((rd_T43 l1 x9_2).f0)).f0)
       rotate_left
       ·rw [if_neg c56] at H; exact absurd H (by simp)
       rw [if_pos c56] at H
       have c56b0 : (t143 == ((rd_T33 l0_2 ((rd_T43 l1 x9_2).f0)).f0)) = true := beq_iff_eq.mpr c56
       have c56b1 : (t143 != ((rd_T33 l0_2 ((rd_T43 l1 x9_2).f0)).f0)) = false := bne_eq_false_iff_eq.mpr c56
       clear c56
       by_cases c57 : t145 = ((rd_T43 l1 x9_2).f1)
       rotate_left
       ·rw [if_neg c57] at H; exact absurd H (by simp)
       rw [if_pos c57] at H
       have c57b0 : (t145 == ((rd_T43 l1 x9_2).f1)) = true := beq_iff_eq.mpr c57
       have c57b1 : (t145 != ((rd_T43 l1 x9_2).f1)) = false := bne_eq_false_iff_eq.mpr c57
       clear c57
       have HC58_ := Aside0.mk H
       clear H
       try go_wp2
       have n0_ : Aside0 (Kd.S k25 25 (((w63.setCell ⟨gb147, 0, none⟩ (.int .i64 t143)).setCell ⟨gb147, 1, none⟩ (.int .i64 t144)).setCell ⟨gb147, 2, none⟩ (.int .i64 t145)) w.heap.size (fun k_ => some k_ ≠ (v141 : Value).ownBlock ∧ k_ ≠ gb131 ∧ k_ ≠ gb147) (.slice Ao59 x6_2.length co59) x6_2) := ⟨by (with_reducible repeat (first | apply Kd.S_alloc | apply Kd.S_drewN | apply Kd.S_drew)); exact Kd.S_mono (Kd.S_far (p := ⟨gb147, 2, none⟩) (Kd.S_far (p := ⟨gb147, 1, none⟩) (Kd.S_far (p := ⟨gb147, 0, none⟩) (Kd.S_mono HO_6.out (fun k_ hk => (⟨hk, hk.2.2⟩ : _ ∧ k_ ≠ gb147))) (fun _ hk => hk.2) (.int .i64 t143)) (fun _ hk => hk.2) (.int .i64 t144)) (fun _ hk => hk.2) (.int .i64 t145)) (fun _ hk => ⟨hk.1.1, ⟨hk.1.2.1, hk.1.2.2⟩⟩)⟩
       have n1_ : Aside0 (Kd.S k25 25 (((w63.setCell ⟨gb147, 0, none⟩ (.int .i64 t143)).setCell ⟨gb147, 1, none⟩ (.int .i64 t144)).setCell ⟨gb147, 2, none⟩ (.int .i64 t145)) w.heap.size (fun k_ => some k_ ≠ (.slice Ao59 x6_2.length co59 : Value).ownBlock ∧ k_ ≠ gb131 ∧ k_ ≠ gb147) v141 t140) := ⟨by (with_reducible repeat (first | apply Kd.S_alloc | apply Kd.S_drewN | apply Kd.S_drew)); exact Kd.S_mono (Kd.S_far (p := ⟨gb147, 2, none⟩) (Kd.S_far (p := ⟨gb147, 1, none⟩) (Kd.S_far (p := ⟨gb147, 0, none⟩) (Kd.S_mono HO142.out (fun k_ hk => (⟨hk, hk.2.2⟩ : _ ∧ k_ ≠ gb147))) (fun _ hk => hk.2) (.int .i64 t143)) (fun _ hk => hk.2) (.int .i64 t144)) (fun _ hk => hk.2) (.int .i64 t145)) (fun _ hk => ⟨hk.1.1, ⟨hk.1.2.1, hk.1.2.2⟩⟩)⟩
       have n2_ : Aside0 ((((w63.setCell ⟨gb147, 0, none⟩ (.int .i64 t143)).setCell ⟨gb147, 1, none⟩ (.int .i64 t144)).setCell ⟨gb147, 2, none⟩ (.int .i64 t145)).heap[gb131]? = some (.cells #[.int .i64 a0_0, .int .i64 a0_1, .slice A0_2 l0_2.length c0_2] 25 (0, 0))) := ⟨by (with_reducible repeat (first | apply blk_drewN | apply blk_drew | apply blk_alloc)); refine blk_far ?_ NB131_147.out _; (with_reducible repeat (first | apply blk_drewN | apply blk_drew | apply blk_alloc)); refine blk_far ?_ NB131_147.out _; (with_reducible repeat (first | apply blk_drewN | apply blk_drew | apply blk_alloc)); refine blk_far ?_ NB131_147.out _; (with_reducible repeat (first | apply blk_drewN | apply blk_drew | apply blk_alloc)); exact BK131.out⟩
       have n3_ : Aside0 ((((w63.setCell ⟨gb147, 0, none⟩ (.int .i64 t143)).setCell ⟨gb147, 1, none⟩ (.int .i64 t144)).setCell ⟨gb147, 2, none⟩ (.int .i64 t145)).heap[gb137]? = some (.cells #[.int .i64 x138000_2, .int .i64 x138001_2, .int .i64 x138002_2, .int .i64 x138003_2] 41 (0, 0))) := ⟨by (with_reducible repeat (first | apply blk_drewN | apply blk_drew | apply blk_alloc)); refine blk_far ?_ NB137_147.out _; (with_reducible repeat (first | apply blk_drewN | apply blk_drew | apply blk_alloc)); refine blk_far ?_ NB137_147.out _; (with_reducible repeat (first | apply blk_drewN | apply blk_drew | apply blk_alloc)); refine blk_far ?_ NB137_147.out _; (with_reducible repeat (first | apply blk_drewN | apply blk_drew | apply blk_alloc)); exact BK137.out⟩
       have n4_ : Aside0 ((((w63.setCell ⟨gb147, 0, none⟩ (.int .i64 t143)).setCell ⟨gb147, 1, none⟩ (.int .i64 t144)).setCell ⟨gb147, 2, none⟩ (.int .i64 t145)).heap[gb147]? = some (.cells #[.int .i64 t143, .int .i64 t144, .int .i64 t145] 33 (0, 0))) := ⟨by (with_reducible repeat (first | apply blk_drewN | apply blk_drew | apply blk_alloc)); refine blk_put (cs := #[.int .i64 t143, .int .i64 t144, .int .i64 0]) ?_ 2 _ rfl; (with_reducible repeat (first | apply blk_drewN | apply blk_drew | apply blk_alloc)); refine blk_put (cs := #[.int .i64 t143, .int .i64 0, .int .i64 0]) ?_ 1 _ rfl; (with_reducible repeat (first | apply blk_drewN | apply blk_drew | apply blk_alloc)); refine blk_put (cs := #[.int .i64 0, .int .i64 0, .int .i64 0]) ?_ 0 _ rfl; (with_reducible repeat (first | apply blk_drewN | apply blk_drew | apply blk_alloc)); exact BK147.out⟩
       have n5_ : Aside0 (Below w.heap.size w (((w63.setCell ⟨gb147, 0, none⟩ (.int .i64 t143)).setCell ⟨gb147, 1, none⟩ (.int .i64 t144)).setCell ⟨gb147, 2, none⟩ (.int .i64 t145))) := ⟨by repeat (first | (with_reducible first | exact HB.out | apply below_alloc | apply pw_below_drewN | apply below_drew1 | refine below_set ?_ GE131.out | refine below_set ?_ GE137.out | refine below_set ?_ GE147.out) | exact HB.out)⟩
       (try clear HO_6); (try clear HO142); (try clear BK131); (try clear BK137); (try clear BK147); (try clear HB)
       generalize (((w63.setCell ⟨gb147, 0, none⟩ (.int .i64 t143)).setCell ⟨gb147, 1, none⟩ (.int .i64 t144)).setCell ⟨gb147, 2, none⟩ (.int .i64 t145)) = w67 at n0_ n1_ n2_ n3_ n4_ n5_ ⊢
       have HO_6 := n0_; have HO142 := n1_; have BK131 := n2_; have BK137 := n3_; have BK147 := n4_; have HB := n5_
       clear n0_ n1_ n2_ n3_ n4_ n5_
       have n0_ := Aside0.mk (Kd.S_drew HO_6.out)
       have n1_ := Aside0.mk (Kd.S_drew HO142.out)
       have n2_ := Aside0.mk (blk_drew BK131.out)
       have n3_ := Aside0.mk (blk_drew BK137.out)
       have n4_ := Aside0.mk (blk_drew BK147.out)
       have n5_ := Aside0.mk (below_drew1 HB.out)
       clear HO_6 HO142 BK131 BK137 BK147 HB
       have HO_6 := n0_; have HO142 := n1_; have BK131 := n2_; have BK137 := n3_; have BK147 := n4_; have HB := n5_
       clear n0_ n1_ n2_ n3_ n4_ n5_
       have p148 : 0 ≤ (x9_2 : Int) := of_decide_eq_true (by first | (with_reducible assumption) | assumption)
       have q148 : x9_2 < (l1.length : Int) := of_decide_eq_true (by first | (with_reducible assumption) | assumption)
       obtain ⟨ad148, e148, hx148_0, hx148_1⟩ := at_T43 HR1.out x9_2 p148 q148
       have hw148_1 := hx148_1
       have hw148_0 := hx148_0
       obtain rfl : ad138 = ad148 := (by injection e148)
       replace hx148_0 := (HB.out.cell (World.block_lt_of_cell? w _ hx148_0)).trans hx148_0
       replace hx148_1 := (HB.out.cell (World.block_lt_of_cell? w _ hx148_1)).trans hx148_1
       replace p148 := eq_true p148
       replace q148 := eq_true q148
       have p149 : 0 ≤ (x9_2 : Int) := of_decide_eq_true (by first | (with_reducible assumption) | assumption)
       have q149 : x9_2 < (l1.length : Int) := of_decide_eq_true (by first | (with_reducible assumption) | assumption)
       obtain ⟨ad149, e149, hx149_0, hx149_1⟩ := at_T43 HR1.out x9_2 p149 q149
       have hw149_1 := hx149_1
       have hw149_0 := hx149_0
       obtain rfl : ad138 = ad149 := (by injection e149)
       replace hx149_0 := (HB.out.cell (World.block_lt_of_cell? w _ hx149_0)).trans hx149_0
       replace hx149_1 := (HB.out.cell (World.block_lt_of_cell? w _ hx149_1)).trans hx149_1
       replace p149 := eq_true p149
       replace q149 := eq_true q149
       have p150 : 0 ≤ (x9_2 : Int) := of_decide_eq_true (by first | (with_reducible assumption) | assumption)
       have q150 : x9_2 < (l1.length : Int) := of_decide_eq_true (by first | (with_reducible assumption) | assumption)
       obtain ⟨ad150, e150, hx150_0, hx150_1⟩ := at_T43 HR1.out x9_2 p150 q150
       have hw150_1 := hx150_1
       have hw150_0 := hx150_0
       obtain rfl : ad138 = ad150 := (by injection e150)
       replace hx150_0 := (HB.out.cell (World.block_lt_of_cell? w _ hx150_0)).trans hx150_0
       replace hx150_1 := (HB.out.cell (World.block_lt_of_cell? w _ hx150_1)).trans hx150_1
       replace p150 := eq_true p150
       replace q150 := eq_true q150
       have p151 : 0 ≤ (x9_2 : Int) := of_decide_eq_true (by first | (with_reducible assumption) | assumption)
       have q151 : x9_2 < (l1.length : Int) := of_decide_eq_true (by first | (with_reducible assumption) | assumption)
       obtain ⟨ad151, e151, hx151_0, hx151_1⟩ := at_T43 HR1.out x9_2 p151 q151
       have hw151_1 := hx151_1
       have hw151_0 := hx151_0
       obtain rfl : ad138 = ad151 := (by injection e151)
       replace hx151_0 := (HB.out.cell (World.block_lt_of_cell? w _ hx151_0)).trans hx151_0
       replace hx151_1 := (HB.out.cell (World.block_lt_of_cell? w _ hx151_1)).trans hx151_1
       replace p151 := eq_true p151
       replace q151 := eq_true q151
       have p152 : 0 ≤ (((rd_T43 l1 x9_2).f0) : Int) := of_decide_eq_true (by first | (with_reducible assumption) | assumption)
       have q152 : ((rd_T43 l1 x9_2).f0) < (l0_2.length : Int) := of_decide_eq_true (by first | (with_reducible assumption) | assumption)
       obtain ⟨ad152, e152, hx152_0, hx152_1, hx152_2⟩ := at_T33 HR0_2.out ((rd_T43 l1 x9_2).f0) p152 q152
       have hw152_2 := hx152_2
       have hw152_1 := hx152_1
       have hw152_0 := hx152_0
       cases e152
       replace hx152_0 := (HB.out.cell (World.block_lt_of_cell? w _ hx152_0)).trans hx152_0
       replace hx152_1 := (HB.out.cell (World.block_lt_of_cell? w _ hx152_1)).trans hx152_1
       replace hx152_2 := (HB.out.cell (World.block_lt_of_cell? w _ hx152_2)).trans hx152_2
       replace p152 := eq_true p152
       replace q152 := eq_true q152
       have p153 : 0 ≤ (x9_2 : Int) := of_decide_eq_true (by first | (with_reducible assumption) | assumption)
       have q153 : x9_2 < (l1.length : Int) := of_decide_eq_true (by first | (with_reducible assumption) | assumption)
       obtain ⟨ad153, e153, hx153_0, hx153_1⟩ := at_T43 HR1.out x9_2 p153 q153
       have hw153_1 := hx153_1
       have hw153_0 := hx153_0
       obtain rfl : ad138 = ad153 := (by injection e153)
       replace hx153_0 := (HB.out.cell (World.block_lt_of_cell? w _ hx153_0)).trans hx153_0
       replace hx153_1 := (HB.out.cell (World.block_lt_of_cell? w _ hx153_1)).trans hx153_1
       replace p153 := eq_true p153
       replace q153 := eq_true q153
       refine start_ (n := 50) (S := fun w' => w'.cell? ⟨gb131, 0, none⟩ = some (.int .i64 a0_0) ∧ w'.cell? ⟨gb131, 1, none⟩ = some (.int .i64 a0_1) ∧ w'.cell? ⟨gb131, 2, none⟩ = some (.slice (some ad152) l0_2.length c0_2) ∧ w'.cell? ⟨gb147, 0, none⟩ = some (.int .i64 t143) ∧ w'.cell? ⟨gb147, 1, none⟩ = some (.int .i64 t144) ∧ w'.cell? ⟨gb147, 2, none⟩ = some (.int .i64 t145) ∧ w'.cell? (ad138.add ((x9_2).toNat * 2)) = some (.int .i64 ((rd_T43 l1 x9_2).f0)) ∧ w'.cell? ⟨(ad138.add ((x9_2).toNat * 2)).block, (ad138.add ((x9_2).toNat * 2)).off + 1, none⟩ = some (.int .i64 ((rd_T43 l1 x9_2).f1)) ∧ w'.cell? (ad138.add ((x9_2).toNat * 2)) = some (.int .i64 ((rd_T43 l1 x9_2).f0)) ∧ w'.cell? ⟨(ad138.add ((x9_2).toNat * 2)).block, (ad138.add ((x9_2).toNat * 2)).off + 1, none⟩ = some (.int .i64 ((rd_T43 l1 x9_2).f1)) ∧ w'.cell? (ad138.add ((x9_2).toNat * 2)) = some (.int .i64 ((rd_T43 l1 x9_2).f0)) ∧ w'.cell? ⟨(ad138.add ((x9_2).toNat * 2)).block, (ad138.add ((x9_2).toNat * 2)).off + 1, none⟩ = some (.int .i64 ((rd_T43 l1 x9_2).f1)) ∧ w'.cell? (ad138.add ((x9_2).toNat * 2)) = some (.int .i64 ((rd_T43 l1 x9_2).f0)) ∧ w'.cell? ⟨(ad138.add ((x9_2).toNat * 2)).block, (ad138.add ((x9_2).toNat * 2)).off + 1, none⟩ = some (.int .i64 ((rd_T43 l1 x9_2).f1)) ∧ w'.cell? (ad152.add ((((rd_T43 l1 x9_2).f0)).toNat * 3)) = some (.int .i64 ((rd_T33 l0_2 ((rd_T43 l1 x9_2).f0)).f0)) ∧ w'.cell? ⟨(ad152.add ((((rd_T43 l1 x9_2).f0)).toNat * 3)).block, (ad152.add ((((rd_T43 l1 x9_2).f0)).toNat * 3)).off + 1, none⟩ = some (.int .i64 ((rd_T33 l0_2 ((rd_T43 l1 x9_2).f0)).f1)) ∧ w'.cell? ⟨(ad152.add ((((rd_T43 l1 x9_2).f0)).toNat * 3)).block, (ad152.add ((((rd_T43 l1 x9_2).f0)).toNat * 3)).off + 2, none⟩ = some (.int .i64 ((rd_T33 l0_2 ((rd_T43 l1 x9_2).f0)).f2)) ∧ w'.cell? (ad138.add ((x9_2).toNat * 2)) = some (.int .i64 ((rd_T43 l1 x9_2).f0)) ∧ w'.cell? ⟨(ad138.add ((x9_2).toNat * 2)).block, (ad138.add ((x9_2).toNat * 2)).off + 1, none⟩ = some (.int .i64 ((rd_T43 l1 x9_2).f1))) (ds := []) #[ff, ff, ff, ff, ff, ff, ff, ff, ff, ff, ff, ff, ff, ff, ff, ff, ff, ff, ff, ff, ff, ff, ff, ff, ff, ff, ff, ff, ff, ff, ff, ff, ff, ff, ff, ff, ff, ff, ff, ff, ff, ff, ff, ff, ff, ff, ff, ff, ff, ff] (by kernel_rfl) rfl rfl ⟨(blk_cell BK131.out 0).trans rfl, (blk_cell BK131.out 1).trans rfl, (blk_cell BK131.out 2).trans rfl, (blk_cell BK147.out 0).trans rfl, (blk_cell BK147.out 1).trans rfl, (blk_cell BK147.out 2).trans rfl, ((HB.out.cell (World.block_lt_of_cell? w _ hw148_0)).trans hw148_0), ((HB.out.cell (World.block_lt_of_cell? w _ hw148_1)).trans hw148_1), ((HB.out.cell (World.block_lt_of_cell? w _ hw149_0)).trans hw149_0), ((HB.out.cell (World.block_lt_of_cell? w _ hw149_1)).trans hw149_1), ((HB.out.cell (World.block_lt_of_cell? w _ hw150_0)).trans hw150_0), ((HB.out.cell (World.block_lt_of_cell? w _ hw150_1)).trans hw150_1), ((HB.out.cell (World.block_lt_of_cell? w _ hw151_0)).trans hw151_0), ((HB.out.cell (World.block_lt_of_cell? w _ hw151_1)).trans hw151_1), ((HB.out.cell (World.block_lt_of_cell? w _ hw152_0)).trans hw152_0), ((HB.out.cell (World.block_lt_of_cell? w _ hw152_1)).trans hw152_1), ((HB.out.cell (World.block_lt_of_cell? w _ hw152_2)).trans hw152_2), ((HB.out.cell (World.block_lt_of_cell? w _ hw153_0)).trans hw153_0), ((HB.out.cell (World.block_lt_of_cell? w _ hw153_1)).trans hw153_1)⟩ (fun hHeld => ?_); refine with_tabW lawAll.tab13 lawAll.bits13 (fun HT_ HW_ => ?_)
       generalize w67.drew = w68 at HO_6 HO142 BK131 BK137 BK147 HB hx148_0 hx148_1 hx149_0 hx149_1 hx150_0 hx150_1 hx151_0 hx151_1 hx152_0 hx152_1 hx152_2 hx153_0 hx153_1 hHeld ⊢
       refine pure_ (i := 0) (N := some 74) (v := ?_) (a' := ?_) #[tt, ff, ff, ff, ff, ff, ff, ff, ff, ff, ff, ff, ff, ff, ff, ff, ff, ff, ff, ff, ff, ff, ff, ff, ff, ff, ff, ff, ff, ff, ff, ff, ff, ff, ff, ff, ff, ff, ff, ff, ff, ff, ff, ff, ff, ff, ff, ff, ff, ff] rfl rfl (any_of HT_.out (by kernel_rfl)) (fun _ _ _ h => h) (Or.inl ⟨by rfl, ?_⟩) ?_ ?_
       rotate_left; (· intro w'; go_simp; with_reducible rfl); rotate_left; (· simp only [Act.put, sA, sB, sC, i64_w, i32_w]; rfl)
       refine pure_ (i := 1) (N := some 75) (v := ?_) (a' := ?_) #[tt, tt, ff, ff, ff, ff, ff, ff, ff, ff, ff, ff, ff, ff, ff, ff, ff, ff, ff, ff, ff, ff, ff, ff, ff, ff, ff, ff, ff, ff, ff, ff, ff, ff, ff, ff, ff, ff, ff, ff, ff, ff, ff, ff, ff, ff, ff, ff, ff, ff] rfl rfl (any_of HT_.out (by kernel_rfl)) (fun _ _ _ h => h) (Or.inl ⟨by rfl, ?_⟩) ?_ ?_
       rotate_left; (· intro w'; go_simp; with_reducible rfl); rotate_left; (· simp only [Act.put, sA, sB, sC, i64_w, i32_w]; rfl)
       refine pure_ (i := 2) (N := some 76) (v := ?_) (a' := ?_) #[tt, tt, tt, ff, ff, ff, ff, ff, ff, ff, ff, ff, ff, ff, ff, ff, ff, ff, ff, ff, ff, ff, ff, ff, ff, ff, ff, ff, ff, ff, ff, ff, ff, ff, ff, ff, ff, ff, ff, ff, ff, ff, ff, ff, ff, ff, ff, ff, ff, ff] rfl rfl (any_of HT_.out (by kernel_rfl)) (fun _ _ _ h => h) (Or.inl ⟨by rfl, ?_⟩) ?_ ?_
       rotate_left; (· intro w'; go_simp; with_reducible rfl); rotate_left; (· simp only [Act.put, sA, sB, sC, i64_w, i32_w]; rfl)
       refine pure_ (i := 3) (N := some 77) (v := ?_) (a' := ?_) #[tt, tt, tt, tt, ff, ff, ff, ff, ff, ff, ff, ff, ff, ff, ff, ff, ff, ff, ff, ff, ff, ff, ff, ff, ff, ff, ff, ff, ff, ff, ff, ff, ff, ff, ff, ff, ff, ff, ff, ff, ff, ff, ff, ff, ff, ff, ff, ff, ff, ff] rfl rfl (any_of HT_.out (by kernel_rfl)) (fun _ _ _ h => h) (Or.inl ⟨by rfl, ?_⟩) ?_ ?_
       rotate_left; (· intro w'; go_simp; with_reducible rfl); rotate_left; (· simp only [Act.put, sA, sB, sC, i64_w, i32_w]; rfl)
       refine take_ (i := 4) (N := some 78) (v := ?_) (a' := ?_) #[tt, tt, tt, tt, tt, ff, ff, ff, ff, ff, ff, ff, ff, ff, ff, ff, ff, ff, ff, ff, ff, ff, ff, ff, ff, ff, ff, ff, ff, ff, ff, ff, ff, ff, ff, ff, ff, ff, ff, ff, ff, ff, ff, ff, ff, ff, ff, ff, ff, ff] rfl rfl (take_ofW HT_.out HW_.out (by kernel_rfl)) (fun _ _ _ h => h) (Or.inl ⟨by rfl, ?_⟩) hHeld ?_ ?_
       rotate_left; (· rintro w' ⟨s0, s1, s2, s3, s4, s5, s6, s7, s8, s9, s10, s11, s12, s13, s14, s15, s16, s17, s18⟩; go_simp; with_reducible rfl); rotate_left; (· simp only [Act.put, sA, sB, sC, i64_w, i32_w]; rfl)
       refine pure_ (i := 5) (N := some 79) (v := ?_) (a' := ?_) #[tt, tt, tt, tt, tt, tt, ff, ff, ff, ff, ff, ff, ff, ff, ff, ff, ff, ff, ff, ff, ff, ff, ff, ff, ff, ff, ff, ff, ff, ff, ff, ff, ff, ff, ff, ff, ff, ff, ff, ff, ff, ff, ff, ff, ff, ff, ff, ff, ff, ff] rfl rfl (any_of HT_.out (by kernel_rfl)) (fun _ _ _ h => h) (Or.inl ⟨by rfl, ?_⟩) ?_ ?_
       rotate_left; (· intro w'; go_simp; with_reducible rfl); rotate_left; (· simp only [Act.put, sA, sB, sC, i64_w, i32_w]; rfl)
       refine pure_ (i := 6) (N := some 80) (v := ?_) (a' := ?_) #[tt, tt, tt, tt, tt, tt, tt, ff, ff, ff, ff, ff, ff, ff, ff, ff, ff, ff, ff, ff, ff, ff, ff, ff, ff, ff, ff, ff, ff, ff, ff, ff, ff, ff, ff, ff, ff, ff, ff, ff, ff, ff, ff, ff, ff, ff, ff, ff, ff, ff] rfl rfl (any_of HT_.out (by kernel_rfl)) (fun _ _ _ h => h) (Or.inl ⟨by rfl, ?_⟩) ?_ ?_
       rotate_left; (· intro w'; go_simp; with_reducible rfl); rotate_left; (· simp only [Act.put, sA, sB, sC, i64_w, i32_w]; rfl)
       refine pure_ (i := 7) (N := some 81) (v := ?_) (a' := ?_) #[tt, tt, tt, tt, tt, tt, tt, tt, ff, ff, ff, ff, ff, ff, ff, ff, ff, ff, ff, ff, ff, ff, ff, ff, ff, ff, ff, ff, ff, ff, ff, ff, ff, ff, ff, ff, ff, ff, ff, ff, ff, ff, ff, ff, ff, ff, ff, ff, ff, ff] rfl rfl (any_of HT_.out (by kernel_rfl)) (fun _ _ _ h => h) (Or.inl ⟨by rfl, ?_⟩) ?_ ?_
       rotate_left; (· intro w'; go_simp; with_reducible rfl); rotate_left; (· simp only [Act.put, sA, sB, sC, i64_w, i32_w]; rfl)
       refine pure_ (i := 8) (N := some 82) (v := ?_) (a' := ?_) #[tt, tt, tt, tt, tt, tt, tt, tt, tt, ff, ff, ff, ff, ff, ff, ff, ff, ff, ff, ff, ff, ff, ff, ff, ff, ff, ff, ff, ff, ff, ff, ff, ff, ff, ff, ff, ff, ff, ff, ff, ff, ff, ff, ff, ff, ff, ff, ff, ff, ff] rfl rfl (any_of HT_.out (by kernel_rfl)) (fun _ _ _ h => h) (Or.inl ⟨by rfl, ?_⟩) ?_ ?_
       rotate_left; (· intro w'; go_simp; with_reducible rfl); rotate_left; (· simp only [Act.put, sA, sB, sC, i64_w, i32_w]; rfl)
       refine pure_ (i := 9) (N := some 83) (v := ?_) (a' := ?_) #[tt, tt, tt, tt, tt, tt, tt, tt, tt, tt, ff, ff, ff, ff, ff, ff, ff, ff, ff, ff, ff, ff, ff, ff, ff, ff, ff, ff, ff, ff, ff, ff, ff, ff, ff, ff, ff, ff, ff, ff, ff, ff, ff, ff, ff, ff, ff, ff, ff, ff] rfl rfl (any_of HT_.out (by kernel_rfl)) (fun _ _ _ h => h) (Or.inl ⟨by rfl, ?_⟩) ?_ ?_
       rotate_left; (· intro w'; go_simp; with_reducible rfl); rotate_left; (· simp only [Act.put, sA, sB, sC, i64_w, i32_w]; rfl)
       refine pure_ (i := 10) (N := some 84) (v := ?_) (a' := ?_) #[tt, tt, tt, tt, tt, tt, tt, tt, tt, tt, tt, ff, ff, ff, ff, ff, ff, ff, ff, ff, ff, ff, ff, ff, ff, ff, ff, ff, ff, ff, ff, ff, ff, ff, ff, ff, ff, ff, ff, ff, ff, ff, ff, ff, ff, ff, ff, ff, ff, ff] rfl rfl (any_of HT_.out (by kernel_rfl)) (fun _ _ _ h => h) (Or.inl ⟨by rfl, ?_⟩) ?_ ?_
       rotate_left; (· intro w'; go_simp; with_reducible rfl); rotate_left; (· simp only [Act.put, sA, sB, sC, i64_w, i32_w]; rfl)
       refine pure_ (i := 12) (N := some 86) (v := ?_) (a' := ?_) #[tt, tt, tt, tt, tt, tt, tt, tt, tt, tt, tt, ff, tt, ff, ff, ff, ff, ff, ff, ff, ff, ff, ff, ff, ff, ff, ff, ff, ff, ff, ff, ff, ff, ff, ff, ff, ff, ff, ff, ff, ff, ff, ff, ff, ff, ff, ff, ff, ff, ff] rfl rfl (any_of HT_.out (by kernel_rfl)) (fun _ _ _ h => h) (Or.inl ⟨by rfl, ?_⟩) ?_ ?_
       rotate_left; (· intro w'; go_simp; with_reducible rfl); rotate_left; (· simp only [Act.put, sA, sB, sC, i64_w, i32_w]; rfl)
       refine take_ (i := 11) (N := some 85) (v := ?_) (a' := ?_) #[tt, tt, tt, tt, tt, tt, tt, tt, tt, tt, tt, tt, tt, ff, ff, ff, ff, ff, ff, ff, ff, ff, ff, ff, ff, ff, ff, ff, ff, ff, ff, ff, ff, ff, ff, ff, ff, ff, ff, ff, ff, ff, ff, ff, ff, ff, ff, ff, ff, ff] rfl rfl (take_ofW HT_.out HW_.out (by kernel_rfl)) (fun _ _ _ h => h) (Or.inl ⟨by rfl, ?_⟩) hHeld ?_ ?_
       rotate_left; (· rintro w' ⟨s0, s1, s2, s3, s4, s5, s6, s7, s8, s9, s10, s11, s12, s13, s14, s15, s16, s17, s18⟩; go_simp; with_reducible rfl); rotate_left; (· simp only [Act.put, sA, sB, sC, i64_w, i32_w]; rfl)
       refine take_ (i := 13) (N := some 87) (v := ?_) (a' := ?_) #[tt, tt, tt, tt, tt, tt, tt, tt, tt, tt, tt, tt, tt, tt, ff, ff, ff, ff, ff, ff, ff, ff, ff, ff, ff, ff, ff, ff, ff, ff, ff, ff, ff, ff, ff, ff, ff, ff, ff, ff, ff, ff, ff, ff, ff, ff, ff, ff, ff, ff] rfl rfl (take_ofW HT_.out HW_.out (by kernel_rfl)) (fun _ _ _ h => h) (Or.inl ⟨by rfl, ?_⟩) hHeld ?_ ?_
       rotate_left; (· rintro w' ⟨s0, s1, s2, s3, s4, s5, s6, s7, s8, s9, s10, s11, s12, s13, s14, s15, s16, s17, s18⟩; go_simp; with_reducible rfl); rotate_left; (· simp only [Act.put, sA, sB, sC, i64_w, i32_w]; rfl)
       refine pure_ (i := 14) (N := some 88) (v := ?_) (a' := ?_) #[tt, tt, tt, tt, tt, tt, tt, tt, tt, tt, tt, tt, tt, tt, tt, ff, ff, ff, ff, ff, ff, ff, ff, ff, ff, ff, ff, ff, ff, ff, ff, ff, ff, ff, ff, ff, ff, ff, ff, ff, ff, ff, ff, ff, ff, ff, ff, ff, ff, ff] rfl rfl (any_of HT_.out (by kernel_rfl)) (fun _ _ _ h => h) (Or.inl ⟨by rfl, ?_⟩) ?_ ?_
       rotate_left; (· intro w'; go_simp; with_reducible rfl); rotate_left; (· simp only [Act.put, sA, sB, sC, i64_w, i32_w]; rfl)
       refine pure_ (i := 15) (N := some 89) (v := ?_) (a' := ?_) #[tt, tt, tt, tt, tt, tt, tt, tt, tt, tt, tt, tt, tt, tt, tt, tt, ff, ff, ff, ff, ff, ff, ff, ff, ff, ff, ff, ff, ff, ff, ff, ff, ff, ff, ff, ff, ff, ff, ff, ff, ff, ff, ff, ff, ff, ff, ff, ff, ff, ff] rfl rfl (any_of HT_.out (by kernel_rfl)) (fun _ _ _ h => h) (Or.inl ⟨by rfl, ?_⟩) ?_ ?_
       rotate_left; (· intro w'; go_simp; with_reducible rfl); rotate_left; (· simp only [Act.put, sA, sB, sC, i64_w, i32_w]; rfl)
       refine pure_ (i := 16) (N := some 90) (v := ?_) (a' := ?_) #[tt, tt, tt, tt, tt, tt, tt, tt, tt, tt, tt, tt, tt, tt, tt, tt, tt, ff, ff, ff, ff, ff, ff, ff, ff, ff, ff, ff, ff, ff, ff, ff, ff, ff, ff, ff, ff, ff, ff, ff, ff, ff, ff, ff, ff, ff, ff, ff, ff, ff] rfl rfl (any_of HT_.out (by kernel_rfl)) (fun _ _ _ h => h) (Or.inl ⟨by rfl, ?_⟩) ?_ ?_
       rotate_left; (· intro w'; go_simp; with_reducible rfl); rotate_left; (· simp only [Act.put, sA, sB, sC, i64_w, i32_w]; rfl)
       refine pure_ (i := 17) (N := some 91) (v := ?_) (a' := ?_) #[tt, tt, tt, tt, tt, tt, tt, tt, tt, tt, tt, tt, tt, tt, tt, tt, tt, tt, ff, ff, ff, ff, ff, ff, ff, ff, ff, ff, ff, ff, ff, ff, ff, ff, ff, ff, ff, ff, ff, ff, ff, ff, ff, ff, ff, ff, ff, ff, ff, ff] rfl rfl (any_of HT_.out (by kernel_rfl)) (fun _ _ _ h => h) (Or.inl ⟨by rfl, ?_⟩) ?_ ?_
       rotate_left; (· intro w'; go_simp; with_reducible rfl); rotate_left; (· simp only [Act.put, sA, sB, sC, i64_w, i32_w]; rfl)
       refine pure_ (i := 18) (N := some 92) (v := ?_) (a' := ?_) #[tt, tt, tt, tt, tt, tt, tt, tt, tt, tt, tt, tt, tt, tt, tt, tt, tt, tt, tt, ff, ff, ff, ff, ff, ff, ff, ff, ff, ff, ff, ff, ff, ff, ff, ff, ff, ff, ff, ff, ff, ff, ff, ff, ff, ff, ff, ff, ff, ff, ff] rfl rfl (any_of HT_.out (by kernel_rfl)) (fun _ _ _ h => h) (Or.inl ⟨by rfl, ?_⟩) ?_ ?_
       rotate_left; (· intro w'; go_simp; with_reducible rfl); rotate_left; (· simp only [Act.put, sA, sB, sC, i64_w, i32_w]; rfl)
       refine pure_ (i := 19) (N := some 93) (v := ?_) (a' := ?_) #[tt, tt, tt, tt, tt, tt, tt, tt, tt, tt, tt, tt, tt, tt, tt, tt, tt, tt, tt, tt, ff, ff, ff, ff, ff, ff, ff, ff, ff, ff, ff, ff, ff, ff, ff, ff, ff, ff, ff, ff, ff, ff, ff, ff, ff, ff, ff, ff, ff, ff] rfl rfl (any_of HT_.out (by kernel_rfl)) (fun _ _ _ h => h) (Or.inl ⟨by rfl, ?_⟩) ?_ ?_
       rotate_left; (· intro w'; go_simp; with_reducible rfl); rotate_left; (· simp only [Act.put, sA, sB, sC, i64_w, i32_w]; rfl)
       refine pure_ (i := 20) (N := some 94) (v := ?_) (a' := ?_) #[tt, tt, tt, tt, tt, tt, tt, tt, tt, tt, tt, tt, tt, tt, tt, tt, tt, tt, tt, tt, tt, ff, ff, ff, ff, ff, ff, ff, ff, ff, ff, ff, ff, ff, ff, ff, ff, ff, ff, ff, ff, ff, ff, ff, ff, ff, ff, ff, ff, ff] rfl rfl (any_of HT_.out (by kernel_rfl)) (fun _ _ _ h => h) (Or.inl ⟨by rfl, ?_⟩) ?_ ?_
       rotate_left; (· intro w'; go_simp; with_reducible rfl); rotate_left; (· simp only [Act.put, sA, sB, sC, i64_w, i32_w]; rfl)
       refine pure_ (i := 21) (N := some 95) (v := ?_) (a' := ?_) #[tt, tt, tt, tt, tt, tt, tt, tt, tt, tt, tt, tt, tt, tt, tt, tt, tt, tt, tt, tt, tt, tt, ff, ff, ff, ff, ff, ff, ff, ff, ff, ff, ff, ff, ff, ff, ff, ff, ff, ff, ff, ff, ff, ff, ff, ff, ff, ff, ff, ff] rfl rfl (any_of HT_.out (by kernel_rfl)) (fun _ _ _ h => h) (Or.inl ⟨by rfl, ?_⟩) ?_ ?_
       rotate_left; (· intro w'; go_simp; with_reducible rfl); rotate_left; (· simp only [Act.put, sA, sB, sC, i64_w, i32_w]; rfl)
       refine take_ (i := 22) (N := some 96) (v := ?_) (a' := ?_) #[tt, tt, tt, tt, tt, tt, tt, tt, tt, tt, tt, tt, tt, tt, tt, tt, tt, tt, tt, tt, tt, tt, tt, ff, ff, ff, ff, ff, ff, ff, ff, ff, ff, ff, ff, ff, ff, ff, ff, ff, ff, ff, ff, ff, ff, ff, ff, ff, ff, ff] rfl rfl (take_ofW HT_.out HW_.out (by kernel_rfl)) (fun _ _ _ h => h) (Or.inl ⟨by rfl, ?_⟩) hHeld ?_ ?_
       rotate_left; (· rintro w' ⟨s0, s1, s2, s3, s4, s5, s6, s7, s8, s9, s10, s11, s12, s13, s14, s15, s16, s17, s18⟩; go_simp; with_reducible rfl); rotate_left; (· simp only [Act.put, sA, sB, sC, i64_w, i32_w]; rfl)
       refine pure_ (i := 23) (N := some 97) (v := ?_) (a' := ?_) #[tt, tt, tt, tt, tt, tt, tt, tt, tt, tt, tt, tt, tt, tt, tt, tt, tt, tt, tt, tt, tt, tt, tt, tt, ff, ff, ff, ff, ff, ff, ff, ff, ff, ff, ff, ff, ff, ff, ff, ff, ff, ff, ff, ff, ff, ff, ff, ff, ff, ff] rfl rfl (any_of HT_.out (by kernel_rfl)) (fun _ _ _ h => h) (Or.inl ⟨by rfl, ?_⟩) ?_ ?_
       rotate_left; (· intro w'; go_simp; with_reducible rfl); rotate_left; (· simp only [Act.put, sA, sB, sC, i64_w, i32_w]; rfl)
       refine pure_ (i := 24) (N := some 98) (v := ?_) (a' := ?_) #[tt, tt, tt, tt, tt, tt, tt, tt, tt, tt, tt, tt, tt, tt, tt, tt, tt, tt, tt, tt, tt, tt, tt, tt, tt, ff, ff, ff, ff, ff, ff, ff, ff, ff, ff, ff, ff, ff, ff, ff, ff, ff, ff, ff, ff, ff, ff, ff, ff, ff] rfl rfl (any_of HT_.out (by kernel_rfl)) (fun _ _ _ h => h) (Or.inl ⟨by rfl, ?_⟩) ?_ ?_
       rotate_left; (· intro w'; go_simp; with_reducible rfl); rotate_left; (· simp only [Act.put, sA, sB, sC, i64_w, i32_w]; rfl)
       refine pure_ (i := 25) (N := some 99) (v := ?_) (a' := ?_) #[tt, tt, tt, tt, tt, tt, tt, tt, tt, tt, tt, tt, tt, tt, tt, tt, tt, tt, tt, tt, tt, tt, tt, tt, tt, tt, ff, ff, ff, ff, ff, ff, ff, ff, ff, ff, ff, ff, ff, ff, ff, ff, ff, ff, ff, ff, ff, ff, ff, ff] rfl rfl (any_of HT_.out (by kernel_rfl)) (fun _ _ _ h => h) (Or.inl ⟨by rfl, ?_⟩) ?_ ?_
       rotate_left; (· intro w'; go_simp; with_reducible rfl); rotate_left; (· simp only [Act.put, sA, sB, sC, i64_w, i32_w]; rfl)
       refine pure_ (i := 26) (N := some 100) (v := ?_) (a' := ?_) #[tt, tt, tt, tt, tt, tt, tt, tt, tt, tt, tt, tt, tt, tt, tt, tt, tt, tt, tt, tt, tt, tt, tt, tt, tt, tt, tt, ff, ff, ff, ff, ff, ff, ff, ff, ff, ff, ff, ff, ff, ff, ff, ff, ff, ff, ff, ff, ff, ff, ff] rfl rfl (any_of HT_.out (by kernel_rfl)) (fun _ _ _ h => h) (Or.inl ⟨by rfl, ?_⟩) ?_ ?_
       rotate_left; (· intro w'; go_simp; with_reducible rfl); rotate_left; (· simp only [Act.put, sA, sB, sC, i64_w, i32_w]; rfl)
       refine pure_ (i := 28) (N := some 102) (v := ?_) (a' := ?_) #[tt, tt, tt, tt, tt, tt, tt, tt, tt, tt, tt, tt, tt, tt, tt, tt, tt, tt, tt, tt, tt, tt, tt, tt, tt, tt, tt, ff, tt, ff, ff, ff, ff, ff, ff, ff, ff, ff, ff, ff, ff, ff, ff, ff, ff, ff, ff, ff, ff, ff] rfl rfl (any_of HT_.out (by kernel_rfl)) (fun _ _ _ h => h) (Or.inl ⟨by rfl, ?_⟩) ?_ ?_
       rotate_left; (· intro w'; go_simp; with_reducible rfl); rotate_left; (· simp only [Act.put, sA, sB, sC, i64_w, i32_w]; rfl)
       refine pure_ (i := 30) (N := some 104) (v := ?_) (a' := ?_) #[tt, tt, tt, tt, tt, tt, tt, tt, tt, tt, tt, tt, tt, tt, tt, tt, tt, tt, tt, tt, tt, tt, tt, tt, tt, tt, tt, ff, tt, ff, tt, ff, ff, ff, ff, ff, ff, ff, ff, ff, ff, ff, ff, ff, ff, ff, ff, ff, ff, ff] rfl rfl (any_of HT_.out (by kernel_rfl)) (fun _ _ _ h => h) (Or.inl ⟨by rfl, ?_⟩) ?_ ?_
       rotate_left; (· intro w'; go_simp; with_reducible rfl); rotate_left; (· simp only [Act.put, sA, sB, sC, i64_w, i32_w]; rfl)
       refine pure_ (i := 31) (N := some 105) (v := ?_) (a' := ?_) #[tt, tt, tt, tt, tt, tt, tt, tt, tt, tt, tt, tt, tt, tt, tt, tt, tt, tt, tt, tt, tt, tt, tt, tt, tt, tt, tt, ff, tt, ff, tt, tt, ff, ff, ff, ff, ff, ff, ff, ff, ff, ff, ff, ff, ff, ff, ff, ff, ff, ff] rfl rfl (any_of HT_.out (by kernel_rfl)) (fun _ _ _ h => h) (Or.inl ⟨by rfl, ?_⟩) ?_ ?_
       rotate_left; (· intro w'; go_simp; with_reducible rfl); rotate_left; (· simp only [Act.put, sA, sB, sC, i64_w, i32_w]; rfl)
       refine pure_ (i := 32) (N := some 106) (v := ?_) (a' := ?_) #[tt, tt, tt, tt, tt, tt, tt, tt, tt, tt, tt, tt, tt, tt, tt, tt, tt, tt, tt, tt, tt, tt, tt, tt, tt, tt, tt, ff, tt, ff, tt, tt, tt, ff, ff, ff, ff, ff, ff, ff, ff, ff, ff, ff, ff, ff, ff, ff, ff, ff] rfl rfl (any_of HT_.out (by kernel_rfl)) (fun _ _ _ h => h) (Or.inl ⟨by rfl, ?_⟩) ?_ ?_
       rotate_left; (· intro w'; go_simp; with_reducible rfl); rotate_left; (· simp only [Act.put, sA, sB, sC, i64_w, i32_w]; rfl)
       refine pure_ (i := 33) (N := some 107) (v := ?_) (a' := ?_) #[tt, tt, tt, tt, tt, tt, tt, tt, tt, tt, tt, tt, tt, tt, tt, tt, tt, tt, tt, tt, tt, tt, tt, tt, tt, tt, tt, ff, tt, ff, tt, tt, tt, tt, ff, ff, ff, ff, ff, ff, ff, ff, ff, ff, ff, ff, ff, ff, ff, ff] rfl rfl (any_of HT_.out (by kernel_rfl)) (fun _ _ _ h => h) (Or.inl ⟨by rfl, ?_⟩) ?_ ?_
       rotate_left; (· intro w'; go_simp; with_reducible rfl); rotate_left; (· simp only [Act.put, sA, sB, sC, i64_w, i32_w]; rfl)
       refine take_ (i := 27) (N := some 101) (v := ?_) (a' := ?_) #[tt, tt, tt, tt, tt, tt, tt, tt, tt, tt, tt, tt, tt, tt, tt, tt, tt, tt, tt, tt, tt, tt, tt, tt, tt, tt, tt, tt, tt, ff, tt, tt, tt, tt, ff, ff, ff, ff, ff, ff, ff, ff, ff, ff, ff, ff, ff, ff, ff, ff] rfl rfl (take_ofW HT_.out HW_.out (by kernel_rfl)) (fun _ _ _ h => h) (Or.inl ⟨by rfl, ?_⟩) hHeld ?_ ?_
       rotate_left; (· rintro w' ⟨s0, s1, s2, s3, s4, s5, s6, s7, s8, s9, s10, s11, s12, s13, s14, s15, s16, s17, s18⟩; go_simp; with_reducible rfl); rotate_left; (· simp only [Act.put, sA, sB, sC, i64_w, i32_w]; rfl)
       refine take_ (i := 29) (N := some 103) (v := ?_) (a' := ?_) #[tt, tt, tt, tt, tt, tt, tt, tt, tt, tt, tt, tt, tt, tt, tt, tt, tt, tt, tt, tt, tt, tt, tt, tt, tt, tt, tt, tt, tt, tt, tt, tt, tt, tt, ff, ff, ff, ff, ff, ff, ff, ff, ff, ff, ff, ff, ff, ff, ff, ff] rfl rfl (take_ofW HT_.out HW_.out (by kernel_rfl)) (fun _ _ _ h => h) (Or.inl ⟨by rfl, ?_⟩) hHeld ?_ ?_
       rotate_left; (· rintro w' ⟨s0, s1, s2, s3, s4, s5, s6, s7, s8, s9, s10, s11, s12, s13, s14, s15, s16, s17, s18⟩; go_simp; with_reducible rfl); rotate_left; (· simp only [Act.put, sA, sB, sC, i64_w, i32_w]; rfl)
       refine take_ (i := 34) (N := some 108) (v := ?_) (a' := ?_) #[tt, tt, tt, tt, tt, tt, tt, tt, tt, tt, tt, tt, tt, tt, tt, tt, tt, tt, tt, tt, tt, tt, tt, tt, tt, tt, tt, tt, tt, tt, tt, tt, tt, tt, tt, ff, ff, ff, ff, ff, ff, ff, ff, ff, ff, ff, ff, ff, ff, ff] rfl rfl (take_ofW HT_.out HW_.out (by kernel_rfl)) (fun _ _ _ h => h) (Or.inl ⟨by rfl, ?_⟩) hHeld ?_ ?_
       rotate_left; (· rintro w' ⟨s0, s1, s2, s3, s4, s5, s6, s7, s8, s9, s10, s11, s12, s13, s14, s15, s16, s17, s18⟩; go_simp; with_reducible rfl); rotate_left; (· simp only [Act.put, sA, sB, sC, i64_w, i32_w]; rfl)
       refine pure_ (i := 35) (N := some 109) (v := ?_) (a' := ?_) #[tt, tt, tt, tt, tt, tt, tt, tt, tt, tt, tt, tt, tt, tt, tt, tt, tt, tt, tt, tt, tt, tt, tt, tt, tt, tt, tt, tt, tt, tt, tt, tt, tt, tt, tt, tt, ff, ff, ff, ff, ff, ff, ff, ff, ff, ff, ff, ff, ff, ff] rfl rfl (any_of HT_.out (by kernel_rfl)) (fun _ _ _ h => h) (Or.inl ⟨by rfl, ?_⟩) ?_ ?_
       rotate_left; (· intro w'; go_simp; with_reducible rfl); rotate_left; (· simp only [Act.put, sA, sB, sC, i64_w, i32_w]; rfl)
       refine pure_ (i := 36) (N := some 110) (v := ?_) (a' := ?_) #[tt, tt, tt, tt, tt, tt, tt, tt, tt, tt, tt, tt, tt, tt, tt, tt, tt, tt, tt, tt, tt, tt, tt, tt, tt, tt, tt, tt, tt, tt, tt, tt, tt, tt, tt, tt, tt, ff, ff, ff, ff, ff, ff, ff, ff, ff, ff, ff, ff, ff] rfl rfl (any_of HT_.out (by kernel_rfl)) (fun _ _ _ h => h) (Or.inl ⟨by rfl, ?_⟩) ?_ ?_
       rotate_left; (· intro w'; go_simp; with_reducible rfl); rotate_left; (· simp only [Act.put, sA, sB, sC, i64_w, i32_w]; rfl)
       refine take_ (i := 37) (N := some 111) (v := ?_) (a' := ?_) #[tt, tt, tt, tt, tt, tt, tt, tt, tt, tt, tt, tt, tt, tt, tt, tt, tt, tt, tt, tt, tt, tt, tt, tt, tt, tt, tt, tt, tt, tt, tt, tt, tt, tt, tt, tt, tt, tt, ff, ff, ff, ff, ff, ff, ff, ff, ff, ff, ff, ff] rfl rfl (take_ofW HT_.out HW_.out (by kernel_rfl)) (fun _ _ _ h => h) (Or.inl ⟨by rfl, ?_⟩) hHeld ?_ ?_
       rotate_left; (· rintro w' ⟨s0, s1, s2, s3, s4, s5, s6, s7, s8, s9, s10, s11, s12, s13, s14, s15, s16, s17, s18⟩; go_simp; with_reducible rfl); rotate_left; (· simp only [Act.put, sA, sB, sC, i64_w, i32_w]; rfl)
       refine pure_ (i := 38) (N := some 112) (v := ?_) (a' := ?_) #[tt, tt, tt, tt, tt, tt, tt, tt, tt, tt, tt, tt, tt, tt, tt, tt, tt, tt, tt, tt, tt, tt, tt, tt, tt, tt, tt, tt, tt, tt, tt, tt, tt, tt, tt, tt, tt, tt, tt, ff, ff, ff, ff, ff, ff, ff, ff, ff, ff, ff] rfl rfl (any_of HT_.out (by kernel_rfl)) (fun _ _ _ h => h) (Or.inl ⟨by rfl, ?_⟩) ?_ ?_
       rotate_left; (· intro w'; go_simp; with_reducible rfl); rotate_left; (· simp only [Act.put, sA, sB, sC, i64_w, i32_w]; rfl)
       refine pure_ (i := 39) (N := some 113) (v := ?_) (a' := ?_) #[tt, tt, tt, tt, tt, tt, tt, tt, tt, tt, tt, tt, tt, tt, tt, tt, tt, tt, tt, tt, tt, tt, tt, tt, tt, tt, tt, tt, tt, tt, tt, tt, tt, tt, tt, tt, tt, tt, tt, tt, ff, ff, ff, ff, ff, ff, ff, ff, ff, ff] rfl rfl (any_of HT_.out (by kernel_rfl)) (fun _ _ _ h => h) (Or.inl ⟨by rfl, ?_⟩) ?_ ?_
       rotate_left; (· intro w'; go_simp; with_reducible rfl); rotate_left; (· simp only [Act.put, sA, sB, sC, i64_w, i32_w]; rfl)
       refine pure_ (i := 40) (N := some 114) (v := ?_) (a' := ?_) #[tt, tt, tt, tt, tt, tt, tt, tt, tt, tt, tt, tt, tt, tt, tt, tt, tt, tt, tt, tt, tt, tt, tt, tt, tt, tt, tt, tt, tt, tt, tt, tt, tt, tt, tt, tt, tt, tt, tt, tt, tt, ff, ff, ff, ff, ff, ff, ff, ff, ff] rfl rfl (any_of HT_.out (by kernel_rfl)) (fun _ _ _ h => h) (Or.inl ⟨by rfl, ?_⟩) ?_ ?_
       rotate_left; (· intro w'; go_simp; with_reducible rfl); rotate_left; (· simp only [Act.put, sA, sB, sC, i64_w, i32_w]; rfl)
       refine pure_ (i := 41) (N := some 115) (v := ?_) (a' := ?_) #[tt, tt, tt, tt, tt, tt, tt, tt, tt, tt, tt, tt, tt, tt, tt, tt, tt, tt, tt, tt, tt, tt, tt, tt, tt, tt, tt, tt, tt, tt, tt, tt, tt, tt, tt, tt, tt, tt, tt, tt, tt, tt, ff, ff, ff, ff, ff, ff, ff, ff] rfl rfl (any_of HT_.out (by kernel_rfl)) (fun _ _ _ h => h) (Or.inl ⟨by rfl, ?_⟩) ?_ ?_
       rotate_left; (· intro w'; go_simp; with_reducible rfl); rotate_left; (· simp only [Act.put, sA, sB, sC, i64_w, i32_w]; rfl)
       refine pure_ (i := 43) (N := some 117) (v := ?_) (a' := ?_) #[tt, tt, tt, tt, tt, tt, tt, tt, tt, tt, tt, tt, tt, tt, tt, tt, tt, tt, tt, tt, tt, tt, tt, tt, tt, tt, tt, tt, tt, tt, tt, tt, tt, tt, tt, tt, tt, tt, tt, tt, tt, tt, ff, tt, ff, ff, ff, ff, ff, ff] rfl rfl (any_of HT_.out (by kernel_rfl)) (fun _ _ _ h => h) (Or.inl ⟨by rfl, ?_⟩) ?_ ?_
       rotate_left; (· intro w'; go_simp; with_reducible rfl); rotate_left; (· simp only [Act.put, sA, sB, sC, i64_w, i32_w]; rfl)
       refine pure_ (i := 44) (N := some 118) (v := ?_) (a' := ?_) #[tt, tt, tt, tt, tt, tt, tt, tt, tt, tt, tt, tt, tt, tt, tt, tt, tt, tt, tt, tt, tt, tt, tt, tt, tt, tt, tt, tt, tt, tt, tt, tt, tt, tt, tt, tt, tt, tt, tt, tt, tt, tt, ff, tt, tt, ff, ff, ff, ff, ff] rfl rfl (any_of HT_.out (by kernel_rfl)) (fun _ _ _ h => h) (Or.inl ⟨by rfl, ?_⟩) ?_ ?_
       rotate_left; (· intro w'; go_simp; with_reducible rfl); rotate_left; (· simp only [Act.put, sA, sB, sC, i64_w, i32_w]; rfl)
       refine pure_ (i := 45) (N := some 119) (v := ?_) (a' := ?_) #[tt, tt, tt, tt, tt, tt, tt, tt, tt, tt, tt, tt, tt, tt, tt, tt, tt, tt, tt, tt, tt, tt, tt, tt, tt, tt, tt, tt, tt, tt, tt, tt, tt, tt, tt, tt, tt, tt, tt, tt, tt, tt, ff, tt, tt, tt, ff, ff, ff, ff] rfl rfl (any_of HT_.out (by kernel_rfl)) (fun _ _ _ h => h) (Or.inl ⟨by rfl, ?_⟩) ?_ ?_
       rotate_left; (· intro w'; go_simp; with_reducible rfl); rotate_left; (· simp only [Act.put, sA, sB, sC, i64_w, i32_w]; rfl)
       refine pure_ (i := 46) (N := some 120) (v := ?_) (a' := ?_) #[tt, tt, tt, tt, tt, tt, tt, tt, tt, tt, tt, tt, tt, tt, tt, tt, tt, tt, tt, tt, tt, tt, tt, tt, tt, tt, tt, tt, tt, tt, tt, tt, tt, tt, tt, tt, tt, tt, tt, tt, tt, tt, ff, tt, tt, tt, tt, ff, ff, ff] rfl rfl (any_of HT_.out (by kernel_rfl)) (fun _ _ _ h => h) (Or.inl ⟨by rfl, ?_⟩) ?_ ?_
       rotate_left; (· intro w'; go_simp; with_reducible rfl); rotate_left; (· simp only [Act.put, sA, sB, sC, i64_w, i32_w]; rfl)
       refine take_ (i := 42) (N := some 116) (v := ?_) (a' := ?_) #[tt, tt, tt, tt, tt, tt, tt, tt, tt, tt, tt, tt, tt, tt, tt, tt, tt, tt, tt, tt, tt, tt, tt, tt, tt, tt, tt, tt, tt, tt, tt, tt, tt, tt, tt, tt, tt, tt, tt, tt, tt, tt, tt, tt, tt, tt, tt, ff, ff, ff] rfl rfl (take_ofW HT_.out HW_.out (by kernel_rfl)) (fun _ _ _ h => h) (Or.inl ⟨by rfl, ?_⟩) hHeld ?_ ?_
       rotate_left; (· rintro w' ⟨s0, s1, s2, s3, s4, s5, s6, s7, s8, s9, s10, s11, s12, s13, s14, s15, s16, s17, s18⟩; go_simp; with_reducible rfl); rotate_left; (· simp only [Act.put, sA, sB, sC, i64_w, i32_w]; rfl)
       refine take_ (i := 47) (N := some 121) (v := ?_) (a' := ?_) #[tt, tt, tt, tt, tt, tt, tt, tt, tt, tt, tt, tt, tt, tt, tt, tt, tt, tt, tt, tt, tt, tt, tt, tt, tt, tt, tt, tt, tt, tt, tt, tt, tt, tt, tt, tt, tt, tt, tt, tt, tt, tt, tt, tt, tt, tt, tt, tt, ff, ff] rfl rfl (take_ofW HT_.out HW_.out (by kernel_rfl)) (fun _ _ _ h => h) (Or.inl ⟨by rfl, ?_⟩) hHeld ?_ ?_
       rotate_left; (· rintro w' ⟨s0, s1, s2, s3, s4, s5, s6, s7, s8, s9, s10, s11, s12, s13, s14, s15, s16, s17, s18⟩; go_simp; with_reducible rfl); rotate_left; (· simp only [Act.put, sA, sB, sC, i64_w, i32_w]; rfl)
       refine pure_ (i := 48) (N := some 122) (v := ?_) (a' := ?_) #[tt, tt, tt, tt, tt, tt, tt, tt, tt, tt, tt, tt, tt, tt, tt, tt, tt, tt, tt, tt, tt, tt, tt, tt, tt, tt, tt, tt, tt, tt, tt, tt, tt, tt, tt, tt, tt, tt, tt, tt, tt, tt, tt, tt, tt, tt, tt, tt, tt, ff] rfl rfl (any_of HT_.out (by kernel_rfl)) (fun _ _ _ h => h) (Or.inl ⟨by rfl, ?_⟩) ?_ ?_
       rotate_left; (· intro w'; go_simp; with_reducible rfl); rotate_left; (· simp only [Act.put, sA, sB, sC, i64_w, i32_w]; rfl)
       refine pure_ (i := 49) (N := some 123) (v := ?_) (a' := ?_) #[tt, tt, tt, tt, tt, tt, tt, tt, tt, tt, tt, tt, tt, tt, tt, tt, tt, tt, tt, tt, tt, tt, tt, tt, tt, tt, tt, tt, tt, tt, tt, tt, tt, tt, tt, tt, tt, tt, tt, tt, tt, tt, tt, tt, tt, tt, tt, tt, tt, tt] rfl rfl (any_of HT_.out (by kernel_rfl)) (fun _ _ _ h => h) (Or.inl ⟨by rfl, ?_⟩) ?_ ?_
       rotate_left; (· intro w'; go_simp; with_reducible rfl); rotate_left; (· simp only [Act.put, sA, sB, sC, i64_w, i32_w]; rfl)
       refine done_ (done_of HT_.out (by kernel_rfl)) ?_
       try go_wp2
       have n0_ := Aside0.mk (Kd.S_drew HO_6.out)
       have n1_ := Aside0.mk (Kd.S_drew HO142.out)
       have n2_ := Aside0.mk (blk_drew BK131.out)
       have n3_ := Aside0.mk (blk_drew BK137.out)
       have n4_ := Aside0.mk (blk_drew BK147.out)
       have n5_ := Aside0.mk (below_drew1 HB.out)
       clear HO_6 HO142 BK131 BK137 BK147 HB
       have HO_6 := n0_; have HO142 := n1_; have BK131 := n2_; have BK137 := n3_; have BK147 := n4_; have HB := n5_
       clear n0_ n1_ n2_ n3_ n4_ n5_
       have p154 : 0 ≤ (x9_2 : Int) := of_decide_eq_true (by first | (with_reducible assumption) | assumption)
       have q154 : x9_2 < (l1.length : Int) := of_decide_eq_true (by first | (with_reducible assumption) | assumption)
       obtain ⟨ad154, e154, hx154_0, hx154_1⟩ := at_T43 HR1.out x9_2 p154 q154
       have hw154_1 := hx154_1
       have hw154_0 := hx154_0
       obtain rfl : ad138 = ad154 := (by injection e154)
       replace hx154_0 := (HB.out.cell (World.block_lt_of_cell? w _ hx154_0)).trans hx154_0
       replace hx154_1 := (HB.out.cell (World.block_lt_of_cell? w _ hx154_1)).trans hx154_1
       replace p154 := eq_true p154
       replace q154 := eq_true q154
       have p155 : 0 ≤ (x9_2 : Int) := of_decide_eq_true (by first | (with_reducible assumption) | assumption)
       have q155 : x9_2 < (l1.length : Int) := of_decide_eq_true (by first | (with_reducible assumption) | assumption)
       obtain ⟨ad155, e155, hx155_0, hx155_1⟩ := at_T43 HR1.out x9_2 p155 q155
       have hw155_1 := hx155_1
       have hw155_0 := hx155_0
       obtain rfl : ad138 = ad155 := (by injection e155)
       replace hx155_0 := (HB.out.cell (World.block_lt_of_cell? w _ hx155_0)).trans hx155_0
       replace hx155_1 := (HB.out.cell (World.block_lt_of_cell? w _ hx155_1)).trans hx155_1
       replace p155 := eq_true p155
       replace q155 := eq_true q155
       have H := HC58_.out
       clear HC58_
       by_cases c58 : ((rd_T43 l1 x9_2).f0) = 0
       ·as_aux_lemma =>
         rw [if_pos c58] at H
         have c58b0 : (((rd_T43 l1 x9_2).f0) == 0) = true := beq_iff_eq.mpr c58
         have c58b1 : (((rd_T43 l1 x9_2).f0) != 0) = false := bne_eq_false_iff_eq.mpr c58
         have HEQ_ := Aside0.mk c58
         clear c58
         have H' := Aside0.mk H
         clear H
         refine start_ (n := 17) (S := fun w' => w'.cell? ⟨gb137, 0, none⟩ = some (.int .i64 x138000_2) ∧ w'.cell? ⟨gb137, 1, none⟩ = some (.int .i64 x138001_2) ∧ w'.cell? ⟨gb137, 2, none⟩ = some (.int .i64 x138002_2) ∧ w'.cell? ⟨gb137, 3, none⟩ = some (.int .i64 x138003_2) ∧ w'.cell? ⟨gb147, 0, none⟩ = some (.int .i64 t143) ∧ w'.cell? ⟨gb147, 1, none⟩ = some (.int .i64 t144) ∧ w'.cell? ⟨gb147, 2, none⟩ = some (.int .i64 t145) ∧ w'.cell? (ad138.add ((x9_2).toNat * 2)) = some (.int .i64 ((rd_T43 l1 x9_2).f0)) ∧ w'.cell? ⟨(ad138.add ((x9_2).toNat * 2)).block, (ad138.add ((x9_2).toNat * 2)).off + 1, none⟩ = some (.int .i64 ((rd_T43 l1 x9_2).f1)) ∧ w'.cell? (ad138.add ((x9_2).toNat * 2)) = some (.int .i64 ((rd_T43 l1 x9_2).f0)) ∧ w'.cell? ⟨(ad138.add ((x9_2).toNat * 2)).block, (ad138.add ((x9_2).toNat * 2)).off + 1, none⟩ = some (.int .i64 ((rd_T43 l1 x9_2).f1))) (ds := [16]) #[ff, ff, ff, ff, ff, ff, ff, ff, ff, ff, ff, ff, ff, ff, ff, ff, ff] (by kernel_rfl) rfl rfl ⟨(blk_cell BK137.out 0).trans rfl, (blk_cell BK137.out 1).trans rfl, (blk_cell BK137.out 2).trans rfl, (blk_cell BK137.out 3).trans rfl, (blk_cell BK147.out 0).trans rfl, (blk_cell BK147.out 1).trans rfl, (blk_cell BK147.out 2).trans rfl, ((HB.out.cell (World.block_lt_of_cell? w _ hw154_0)).trans hw154_0), ((HB.out.cell (World.block_lt_of_cell? w _ hw154_1)).trans hw154_1), ((HB.out.cell (World.block_lt_of_cell? w _ hw155_0)).trans hw155_0), ((HB.out.cell (World.block_lt_of_cell? w _ hw155_1)).trans hw155_1)⟩ (fun hHeld => ?_); refine with_tabW lawAll.tab15 lawAll.bits15 (fun HT_ HW_ => ?_)
         generalize w68.drew = w69 at HO_6 HO142 BK131 BK137 BK147 HB hx154_0 hx154_1 hx155_0 hx155_1 hHeld ⊢
         refine pure_ (i := 0) (N := some 124) (v := ?_) (a' := ?_) #[tt, ff, ff, ff, ff, ff, ff, ff, ff, ff, ff, ff, ff, ff, ff, ff, ff] rfl rfl (any_of HT_.out (by kernel_rfl)) (fun _ _ _ h => h) (Or.inl ⟨by rfl, ?_⟩) ?_ ?_
         rotate_left; (· intro w'; go_simp; with_reducible rfl); rotate_left; (· simp only [Act.put, sA, sB, sC, i64_w, i32_w]; rfl)
         refine pure_ (i := 1) (N := some 125) (v := ?_) (a' := ?_) #[tt, tt, ff, ff, ff, ff, ff, ff, ff, ff, ff, ff, ff, ff, ff, ff, ff] rfl rfl (any_of HT_.out (by kernel_rfl)) (fun _ _ _ h => h) (Or.inl ⟨by rfl, ?_⟩) ?_ ?_
         rotate_left; (· intro w'; go_simp; with_reducible rfl); rotate_left; (· simp only [Act.put, sA, sB, sC, i64_w, i32_w]; rfl)
         refine pure_ (i := 2) (N := some 126) (v := ?_) (a' := ?_) #[tt, tt, tt, ff, ff, ff, ff, ff, ff, ff, ff, ff, ff, ff, ff, ff, ff] rfl rfl (any_of HT_.out (by kernel_rfl)) (fun _ _ _ h => h) (Or.inl ⟨by rfl, ?_⟩) ?_ ?_
         rotate_left; (· intro w'; go_simp; with_reducible rfl); rotate_left; (· simp only [Act.put, sA, sB, sC, i64_w, i32_w]; rfl)
         refine pure_ (i := 3) (N := some 127) (v := ?_) (a' := ?_) #[tt, tt, tt, tt, ff, ff, ff, ff, ff, ff, ff, ff, ff, ff, ff, ff, ff] rfl rfl (any_of HT_.out (by kernel_rfl)) (fun _ _ _ h => h) (Or.inl ⟨by rfl, ?_⟩) ?_ ?_
         rotate_left; (· intro w'; go_simp; with_reducible rfl); rotate_left; (· simp only [Act.put, sA, sB, sC, i64_w, i32_w]; rfl)
         refine pure_ (i := 5) (N := some 129) (v := ?_) (a' := ?_) #[tt, tt, tt, tt, ff, tt, ff, ff, ff, ff, ff, ff, ff, ff, ff, ff, ff] rfl rfl (any_of HT_.out (by kernel_rfl)) (fun _ _ _ h => h) (Or.inl ⟨by rfl, ?_⟩) ?_ ?_
         rotate_left; (· intro w'; go_simp; with_reducible rfl); rotate_left; (· simp only [Act.put, sA, sB, sC, i64_w, i32_w]; rfl)
         refine pure_ (i := 6) (N := some 130) (v := ?_) (a' := ?_) #[tt, tt, tt, tt, ff, tt, tt, ff, ff, ff, ff, ff, ff, ff, ff, ff, ff] rfl rfl (any_of HT_.out (by kernel_rfl)) (fun _ _ _ h => h) (Or.inl ⟨by rfl, ?_⟩) ?_ ?_
         rotate_left; (· intro w'; go_simp; with_reducible rfl); rotate_left; (· simp only [Act.put, sA, sB, sC, i64_w, i32_w]; rfl)
         refine pure_ (i := 7) (N := some 131) (v := ?_) (a' := ?_) #[tt, tt, tt, tt, ff, tt, tt, tt, ff, ff, ff, ff, ff, ff, ff, ff, ff] rfl rfl (any_of HT_.out (by kernel_rfl)) (fun _ _ _ h => h) (Or.inl ⟨by rfl, ?_⟩) ?_ ?_
         rotate_left; (· intro w'; go_simp; with_reducible rfl); rotate_left; (· simp only [Act.put, sA, sB, sC, i64_w, i32_w]; rfl)
         refine pure_ (i := 8) (N := some 132) (v := ?_) (a' := ?_) #[tt, tt, tt, tt, ff, tt, tt, tt, tt, ff, ff, ff, ff, ff, ff, ff, ff] rfl rfl (any_of HT_.out (by kernel_rfl)) (fun _ _ _ h => h) (Or.inl ⟨by rfl, ?_⟩) ?_ ?_
         rotate_left; (· intro w'; go_simp; with_reducible rfl); rotate_left; (· simp only [Act.put, sA, sB, sC, i64_w, i32_w]; rfl)
         refine pure_ (i := 12) (N := some 136) (v := ?_) (a' := ?_) #[tt, tt, tt, tt, ff, tt, tt, tt, tt, ff, ff, ff, tt, ff, ff, ff, ff] rfl rfl (any_of HT_.out (by kernel_rfl)) (fun _ _ _ h => h) (Or.inl ⟨by rfl, ?_⟩) ?_ ?_
         rotate_left; (· intro w'; go_simp; with_reducible rfl); rotate_left; (· simp only [Act.put, sA, sB, sC, i64_w, i32_w]; rfl)
         refine take_ (i := 4) (N := some 128) (v := ?_) (a' := ?_) #[tt, tt, tt, tt, tt, tt, tt, tt, tt, ff, ff, ff, tt, ff, ff, ff, ff] rfl rfl (take_ofW HT_.out HW_.out (by kernel_rfl)) (fun _ _ _ h => h) (Or.inl ⟨by rfl, ?_⟩) hHeld ?_ ?_
         rotate_left; (· rintro w' ⟨s0, s1, s2, s3, s4, s5, s6, s7, s8, s9, s10⟩; go_simp; with_reducible rfl); rotate_left; (· simp only [Act.put, sA, sB, sC, i64_w, i32_w]; rfl)
         refine take_ (i := 9) (N := some 133) (v := ?_) (a' := ?_) #[tt, tt, tt, tt, tt, tt, tt, tt, tt, tt, ff, ff, tt, ff, ff, ff, ff] rfl rfl (take_ofW HT_.out HW_.out (by kernel_rfl)) (fun _ _ _ h => h) (Or.inl ⟨by rfl, ?_⟩) hHeld ?_ ?_
         rotate_left; (· rintro w' ⟨s0, s1, s2, s3, s4, s5, s6, s7, s8, s9, s10⟩; go_simp; with_reducible rfl); rotate_left; (· simp only [Act.put, sA, sB, sC, i64_w, i32_w]; rfl)
         have cE_ := HEQ_.out
         refine pure_ (i := 10) (N := some 134) (v := ?_) (a' := ?_) #[tt, tt, tt, tt, tt, tt, tt, tt, tt, tt, tt, ff, tt, ff, ff, ff, ff] rfl rfl (any_of HT_.out (by kernel_rfl)) (fun _ _ _ h => h) (Or.inl ⟨by rfl, ?_⟩) ?_ ?_
         rotate_left; (· intro w'; go_simp; with_reducible rfl); rotate_left; (· simp only [Act.put, sA, sB, sC, i64_w, i32_w]; rfl)
         clear cE_
         refine take_ (i := 11) (N := some 135) (v := ?_) (a' := ?_) #[tt, tt, tt, tt, tt, tt, tt, tt, tt, tt, tt, tt, tt, ff, ff, ff, ff] rfl rfl (take_ofW HT_.out HW_.out (by kernel_rfl)) (fun _ _ _ h => h) (Or.inl ⟨by rfl, ?_⟩) hHeld ?_ ?_
         rotate_left; (· rintro w' ⟨s0, s1, s2, s3, s4, s5, s6, s7, s8, s9, s10⟩; go_simp; with_reducible rfl); rotate_left; (· simp only [Act.put, sA, sB, sC, i64_w, i32_w]; rfl)
         refine take_ (i := 13) (N := some 137) (v := ?_) (a' := ?_) #[tt, tt, tt, tt, tt, tt, tt, tt, tt, tt, tt, tt, tt, tt, ff, ff, ff] rfl rfl (take_ofW HT_.out HW_.out (by kernel_rfl)) (fun _ _ _ h => h) (Or.inl ⟨by rfl, ?_⟩) hHeld ?_ ?_
         rotate_left; (· rintro w' ⟨s0, s1, s2, s3, s4, s5, s6, s7, s8, s9, s10⟩; go_simp; with_reducible rfl); rotate_left; (· simp only [Act.put, sA, sB, sC, i64_w, i32_w]; rfl)
         refine pure_ (i := 14) (N := some 138) (v := ?_) (a' := ?_) #[tt, tt, tt, tt, tt, tt, tt, tt, tt, tt, tt, tt, tt, tt, tt, ff, ff] rfl rfl (any_of HT_.out (by kernel_rfl)) (fun _ _ _ h => h) (Or.inl ⟨by rfl, ?_⟩) ?_ ?_
         rotate_left; (· intro w'; go_simp; with_reducible rfl); rotate_left; (· simp only [Act.put, sA, sB, sC, i64_w, i32_w]; rfl)
         have cE_ := HEQ_.out
         refine pure_ (i := 15) (N := some 139) (v := ?_) (a' := ?_) #[tt, tt, tt, tt, tt, tt, tt, tt, tt, tt, tt, tt, tt, tt, tt, tt, ff] rfl rfl (any_of HT_.out (by kernel_rfl)) (fun _ _ _ h => h) (Or.inl ⟨by rfl, ?_⟩) ?_ ?_
         rotate_left; (· intro w'; go_simp; with_reducible rfl); rotate_left; (· simp only [Act.put, sA, sB, sC, i64_w, i32_w]; rfl)
         clear cE_
         refine last_ (i := 16) (N := none) #[tt, tt, tt, tt, tt, tt, tt, tt, tt, tt, tt, tt, tt, tt, tt, tt, tt] rfl rfl (one_of HT_.out (by kernel_rfl)) (by decide) (fun K hK => ?_)
         have hs70 : w69.cell? ⟨gb137, 0, none⟩ = some (.int .i64 x138000_2) := (blk_cell BK137.out 0).trans rfl
         have hfs70 := blk_frozen BK137.out 0
         have hns70_0 := NB131_137.out
         have hns70_2 := NB147_137.out
         have hms70_0 := NB137_131.out
         have hms70_2 := NB137_147.out
         refine skip_ (w1 := ?_) (by rfl) rfl ?_ ?_
         rotate_left
         ·go_simp
          rfl
         refine hK.out _ _ ?_
         clear hK K
         refine done_ (done_of HT_.out (by kernel_rfl)) ?_
         try go_wp2
         go_roundg k2
         case measure => have := HJ3.out; have := HK2.out; omega
         case rel => exact ⟨(t140), (wrap64 (x9_2 + 1)), (wrap64 (x138000_2 + t145)), (x138001_2), (x138002_2), (x138003_2), (by first | rfl | (simp; done) | (simp [*]; done)), H', ⟨by have := HJ3.out; have := HK2.out; omega⟩, ⟨by (with_reducible repeat (first | apply Kd.S_alloc | apply Kd.S_drewN | apply Kd.S_drew)); exact Kd.S_mono (Kd.S_far (p := ⟨gb137, 0, none⟩) (Kd.S_types HO142.out BK137.out (by decide)) (fun _ hk => hk.2) (.int .i64 (wrap64 (x138000_2 + t145)))) (fun _ hk => hk.1.2.1)⟩, ⟨by (with_reducible repeat (first | apply blk_drewN | apply blk_drew | apply blk_alloc)); refine blk_far ?_ NB131_137.out _; (with_reducible repeat (first | apply blk_drewN | apply blk_drew | apply blk_alloc)); exact BK131.out⟩, ⟨by (with_reducible repeat (first | apply blk_drewN | apply blk_drew | apply blk_alloc)); refine blk_put (cs := #[.int .i64 x138000_2, .int .i64 x138001_2, .int .i64 x138002_2, .int .i64 x138003_2]) ?_ 0 _ rfl; (with_reducible repeat (first | apply blk_drewN | apply blk_drew | apply blk_alloc)); exact BK137.out⟩, ⟨by repeat (first | (with_reducible first | exact HB.out | apply below_alloc | apply pw_below_drewN | apply below_drew1 | refine below_set ?_ GE131.out | refine below_set ?_ GE137.out | refine below_set ?_ GE147.out) | exact HB.out)⟩⟩
       as_aux_lemma =>
        rw [if_neg c58] at H
        clear c58
        by_cases c71 : ((rd_T43 l1 x9_2).f0) = 1
        ·as_aux_lemma =>
          rw [if_pos c71] at H
          have c71b0 : (((rd_T43 l1 x9_2).f0) == 1) = true := beq_iff_eq.mpr c71
          have c71b1 : (((rd_T43 l1 x9_2).f0) != 1) = false := bne_eq_false_iff_eq.mpr c71
          have HEQ_ := Aside0.mk c71
          clear c71
          have H' := Aside0.mk H
          clear H
          refine start_ (n := 17) (S := fun w' => w'.cell? ⟨gb137, 0, none⟩ = some (.int .i64 x138000_2) ∧ w'.cell? ⟨gb137, 1, none⟩ = some (.int .i64 x138001_2) ∧ w'.cell? ⟨gb137, 2, none⟩ = some (.int .i64 x138002_2) ∧ w'.cell? ⟨gb137, 3, none⟩ = some (.int .i64 x138003_2) ∧ w'.cell? ⟨gb147, 0, none⟩ = some (.int .i64 t143) ∧ w'.cell? ⟨gb147, 1, none⟩ = some (.int .i64 t144) ∧ w'.cell? ⟨gb147, 2, none⟩ = some (.int .i64 t145) ∧ w'.cell? (ad138.add ((x9_2).toNat * 2)) = some (.int .i64 ((rd_T43 l1 x9_2).f0)) ∧ w'.cell? ⟨(ad138.add ((x9_2).toNat * 2)).block, (ad138.add ((x9_2).toNat * 2)).off + 1, none⟩ = some (.int .i64 ((rd_T43 l1 x9_2).f1)) ∧ w'.cell? (ad138.add ((x9_2).toNat * 2)) = some (.int .i64 ((rd_T43 l1 x9_2).f0)) ∧ w'.cell? ⟨(ad138.add ((x9_2).toNat * 2)).block, (ad138.add ((x9_2).toNat * 2)).off + 1, none⟩ = some (.int .i64 ((rd_T43 l1 x9_2).f1))) (ds := [16]) #[ff, ff, ff, ff, ff, ff, ff, ff, ff, ff, ff, ff, ff, ff, ff, ff, ff] (by kernel_rfl) rfl rfl ⟨(blk_cell BK137.out 0).trans rfl, (blk_cell BK137.out 1).trans rfl, (blk_cell BK137.out 2).trans rfl, (blk_cell BK137.out 3).trans rfl, (blk_cell BK147.out 0).trans rfl, (blk_cell BK147.out 1).trans rfl, (blk_cell BK147.out 2).trans rfl, ((HB.out.cell (World.block_lt_of_cell? w _ hw154_0)).trans hw154_0), ((HB.out.cell (World.block_lt_of_cell? w _ hw154_1)).trans hw154_1), ((HB.out.cell (World.block_lt_of_cell? w _ hw155_0)).trans hw155_0), ((HB.out.cell (World.block_lt_of_cell? w _ hw155_1)).trans hw155_1)⟩ (fun hHeld => ?_); refine with_tabW lawAll.tab15 lawAll.bits15 (fun HT_ HW_ => ?_)
          generalize w68.drew = w82 at HO_6 HO142 BK131 BK137 BK147 HB hx154_0 hx154_1 hx155_0 hx155_1 hHeld ⊢
          refine pure_ (i := 0) (N := some 124) (v := ?_) (a' := ?_) #[tt, ff, ff, ff, ff, ff, ff, ff, ff, ff, ff, ff, ff, ff, ff, ff, ff] rfl rfl (any_of HT_.out (by kernel_rfl)) (fun _ _ _ h => h) (Or.inl ⟨by rfl, ?_⟩) ?_ ?_
          rotate_left; (· intro w'; go_simp; with_reducible rfl); rotate_left; (· simp only [Act.put, sA, sB, sC, i64_w, i32_w]; rfl)
          refine pure_ (i := 1) (N := some 125) (v := ?_) (a' := ?_) #[tt, tt, ff, ff, ff, ff, ff, ff, ff, ff, ff, ff, ff, ff, ff, ff, ff] rfl rfl (any_of HT_.out (by kernel_rfl)) (fun _ _ _ h => h) (Or.inl ⟨by rfl, ?_⟩) ?_ ?_
          rotate_left; (· intro w'; go_simp; with_reducible rfl); rotate_left; (· simp only [Act.put, sA, sB, sC, i64_w, i32_w]; rfl)
          refine pure_ (i := 2) (N := some 126) (v := ?_) (a' := ?_) #[tt, tt, tt, ff, ff, ff, ff, ff, ff, ff, ff, ff, ff, ff, ff, ff, ff] rfl rfl (any_of HT_.out (by kernel_rfl)) (fun _ _ _ h => h) (Or.inl ⟨by rfl, ?_⟩) ?_ ?_
          rotate_left; (· intro w'; go_simp; with_reducible rfl); rotate_left; (· simp only [Act.put, sA, sB, sC, i64_w, i32_w]; rfl)
          refine pure_ (i := 3) (N := some 127) (v := ?_) (a' := ?_) #[tt, tt, tt, tt, ff, ff, ff, ff, ff, ff, ff, ff, ff, ff, ff, ff, ff] rfl rfl (any_of HT_.out (by kernel_rfl)) (fun _ _ _ h => h) (Or.inl ⟨by rfl, ?_⟩) ?_ ?_
          rotate_left; (· intro w'; go_simp; with_reducible rfl); rotate_left; (· simp only [Act.put, sA, sB, sC, i64_w, i32_w]; rfl)
          refine pure_ (i := 5) (N := some 129) (v := ?_) (a' := ?_) #[tt, tt, tt, tt, ff, tt, ff, ff, ff, ff, ff, ff, ff, ff, ff, ff, ff] rfl rfl (any_of HT_.out (by kernel_rfl)) (fun _ _ _ h => h) (Or.inl ⟨by rfl, ?_⟩) ?_ ?_
          rotate_left; (· intro w'; go_simp; with_reducible rfl); rotate_left; (· simp only [Act.put, sA, sB, sC, i64_w, i32_w]; rfl)
          refine pure_ (i := 6) (N := some 130) (v := ?_) (a' := ?_) #[tt, tt, tt, tt, ff, tt, tt, ff, ff, ff, ff, ff, ff, ff, ff, ff, ff] rfl rfl (any_of HT_.out (by kernel_rfl)) (fun _ _ _ h => h) (Or.inl ⟨by rfl, ?_⟩) ?_ ?_
          rotate_left; (· intro w'; go_simp; with_reducible rfl); rotate_left; (· simp only [Act.put, sA, sB, sC, i64_w, i32_w]; rfl)
          refine pure_ (i := 7) (N := some 131) (v := ?_) (a' := ?_) #[tt, tt, tt, tt, ff, tt, tt, tt, ff, ff, ff, ff, ff, ff, ff, ff, ff] rfl rfl (any_of HT_.out (by kernel_rfl)) (fun _ _ _ h => h) (Or.inl ⟨by rfl, ?_⟩) ?_ ?_
          rotate_left; (· intro w'; go_simp; with_reducible rfl); rotate_left; (· simp only [Act.put, sA, sB, sC, i64_w, i32_w]; rfl)
          refine pure_ (i := 8) (N := some 132) (v := ?_) (a' := ?_) #[tt, tt, tt, tt, ff, tt, tt, tt, tt, ff, ff, ff, ff, ff, ff, ff, ff] rfl rfl (any_of HT_.out (by kernel_rfl)) (fun _ _ _ h => h) (Or.inl ⟨by rfl, ?_⟩) ?_ ?_
          rotate_left; (· intro w'; go_simp; with_reducible rfl); rotate_left; (· simp only [Act.put, sA, sB, sC, i64_w, i32_w]; rfl)
          refine pure_ (i := 12) (N := some 136) (v := ?_) (a' := ?_) #[tt, tt, tt, tt, ff, tt, tt, tt, tt, ff, ff, ff, tt, ff, ff, ff, ff] rfl rfl (any_of HT_.out (by kernel_rfl)) (fun _ _ _ h => h) (Or.inl ⟨by rfl, ?_⟩) ?_ ?_
          rotate_left; (· intro w'; go_simp; with_reducible rfl); rotate_left; (· simp only [Act.put, sA, sB, sC, i64_w, i32_w]; rfl)
          refine take_ (i := 4) (N := some 128) (v := ?_) (a' := ?_) #[tt, tt, tt, tt, tt, tt, tt, tt, tt, ff, ff, ff, tt, ff, ff, ff, ff] rfl rfl (take_ofW HT_.out HW_.out (by kernel_rfl)) (fun _ _ _ h => h) (Or.inl ⟨by rfl, ?_⟩) hHeld ?_ ?_
          rotate_left; (· rintro w' ⟨s0, s1, s2, s3, s4, s5, s6, s7, s8, s9, s10⟩; go_simp; with_reducible rfl); rotate_left; (· simp only [Act.put, sA, sB, sC, i64_w, i32_w]; rfl)
          refine take_ (i := 9) (N := some 133) (v := ?_) (a' := ?_) #[tt, tt, tt, tt, tt, tt, tt, tt, tt, tt, ff, ff, tt, ff, ff, ff, ff] rfl rfl (take_ofW HT_.out HW_.out (by kernel_rfl)) (fun _ _ _ h => h) (Or.inl ⟨by rfl, ?_⟩) hHeld ?_ ?_
          rotate_left; (· rintro w' ⟨s0, s1, s2, s3, s4, s5, s6, s7, s8, s9, s10⟩; go_simp; with_reducible rfl); rotate_left; (· simp only [Act.put, sA, sB, sC, i64_w, i32_w]; rfl)
          have cE_ := HEQ_.out
          refine pure_ (i := 10) (N := some 134) (v := ?_) (a' := ?_) #[tt, tt, tt, tt, tt, tt, tt, tt, tt, tt, tt, ff, tt, ff, ff, ff, ff] rfl rfl (any_of HT_.out (by kernel_rfl)) (fun _ _ _ h => h) (Or.inl ⟨by rfl, ?_⟩) ?_ ?_
          rotate_left; (· intro w'; go_simp; with_reducible rfl); rotate_left; (· simp only [Act.put, sA, sB, sC, i64_w, i32_w]; rfl)
          clear cE_
          refine take_ (i := 11) (N := some 135) (v := ?_) (a' := ?_) #[tt, tt, tt, tt, tt, tt, tt, tt, tt, tt, tt, tt, tt, ff, ff, ff, ff] rfl rfl (take_ofW HT_.out HW_.out (by kernel_rfl)) (fun _ _ _ h => h) (Or.inl ⟨by rfl, ?_⟩) hHeld ?_ ?_
          rotate_left; (· rintro w' ⟨s0, s1, s2, s3, s4, s5, s6, s7, s8, s9, s10⟩; go_simp; with_reducible rfl); rotate_left; (· simp only [Act.put, sA, sB, sC, i64_w, i32_w]; rfl)
          refine take_ (i := 13) (N := some 137) (v := ?_) (a' := ?_) #[tt, tt, tt, tt, tt, tt, tt, tt, tt, tt, tt, tt, tt, tt, ff, ff, ff] rfl rfl (take_ofW HT_.out HW_.out (by kernel_rfl)) (fun _ _ _ h => h) (Or.inl ⟨by rfl, ?_⟩) hHeld ?_ ?_
          rotate_left; (· rintro w' ⟨s0, s1, s2, s3, s4, s5, s6, s7, s8, s9, s10⟩; go_simp; with_reducible rfl); rotate_left; (· simp only [Act.put, sA, sB, sC, i64_w, i32_w]; rfl)
          refine pure_ (i := 14) (N := some 138) (v := ?_) (a' := ?_) #[tt, tt, tt, tt, tt, tt, tt, tt, tt, tt, tt, tt, tt, tt, tt, ff, ff] rfl rfl (any_of HT_.out (by kernel_rfl)) (fun _ _ _ h => h) (Or.inl ⟨by rfl, ?_⟩) ?_ ?_
          rotate_left; (· intro w'; go_simp; with_reducible rfl); rotate_left; (· simp only [Act.put, sA, sB, sC, i64_w, i32_w]; rfl)
          have cE_ := HEQ_.out
          refine pure_ (i := 15) (N := some 139) (v := ?_) (a' := ?_) #[tt, tt, tt, tt, tt, tt, tt, tt, tt, tt, tt, tt, tt, tt, tt, tt, ff] rfl rfl (any_of HT_.out (by kernel_rfl)) (fun _ _ _ h => h) (Or.inl ⟨by rfl, ?_⟩) ?_ ?_
          rotate_left; (· intro w'; go_simp; with_reducible rfl); rotate_left; (· simp only [Act.put, sA, sB, sC, i64_w, i32_w]; rfl)
          clear cE_
          refine last_ (i := 16) (N := none) #[tt, tt, tt, tt, tt, tt, tt, tt, tt, tt, tt, tt, tt, tt, tt, tt, tt] rfl rfl (one_of HT_.out (by kernel_rfl)) (by decide) (fun K hK => ?_)
          have hs83 : w82.cell? ⟨gb137, 1, none⟩ = some (.int .i64 x138001_2) := (blk_cell BK137.out 1).trans rfl
          have hfs83 := blk_frozen BK137.out 1
          have hns83_0 := NB131_137.out
          have hns83_2 := NB147_137.out
          have hms83_0 := NB137_131.out
          have hms83_2 := NB137_147.out
          refine skip_ (w1 := ?_) (by rfl) rfl ?_ ?_
          rotate_left
          ·go_simp
           rfl
          refine hK.out _ _ ?_
          clear hK K
          refine done_ (done_of HT_.out (by kernel_rfl)) ?_
          try go_wp2
          go_roundg k2
          case measure => have := HJ3.out; have := HK2.out; omega
          case rel => exact ⟨(t140), (wrap64 (x9_2 + 1)), (x138000_2), (wrap64 (x138001_2 + t145)), (x138002_2), (x138003_2), (by first | rfl | (simp; done) | (simp [*]; done)), H', ⟨by have := HJ3.out; have := HK2.out; omega⟩, ⟨by (with_reducible repeat (first | apply Kd.S_alloc | apply Kd.S_drewN | apply Kd.S_drew)); exact Kd.S_mono (Kd.S_far (p := ⟨gb137, 1, none⟩) (Kd.S_types HO142.out BK137.out (by decide)) (fun _ hk => hk.2) (.int .i64 (wrap64 (x138001_2 + t145)))) (fun _ hk => hk.1.2.1)⟩, ⟨by (with_reducible repeat (first | apply blk_drewN | apply blk_drew | apply blk_alloc)); refine blk_far ?_ NB131_137.out _; (with_reducible repeat (first | apply blk_drewN | apply blk_drew | apply blk_alloc)); exact BK131.out⟩, ⟨by (with_reducible repeat (first | apply blk_drewN | apply blk_drew | apply blk_alloc)); refine blk_put (cs := #[.int .i64 x138000_2, .int .i64 x138001_2, .int .i64 x138002_2, .int .i64 x138003_2]) ?_ 1 _ rfl; (with_reducible repeat (first | apply blk_drewN | apply blk_drew | apply blk_alloc)); exact BK137.out⟩, ⟨by repeat (first | (with_reducible first | exact HB.out | apply below_alloc | apply pw_below_drewN | apply below_drew1 | refine below_set ?_ GE131.out | refine below_set ?_ GE137.out | refine below_set ?_ GE147.out) | exact HB.out)⟩⟩
        as_aux_lemma =>
         rw [if_neg c71] at H
         clear c71
         by_cases c84 : ((rd_T43 l1 x9_2).f0) = 2
         ·as_aux_lemma =>
           rw [if_pos c84] at H
           have c84b0 : (((rd_T43 l1 x9_2).f0) == 2) = true := beq_iff_eq.mpr c84
           have c84b1 : (((rd_T43 l1 x9_2).f0) != 2) = false := bne_eq_false_iff_eq.mpr c84
           have HEQ_ := Aside0.mk c84
           clear c84
           have H' := Aside0.mk H
           clear H
           refine start_ (n := 17) (S := fun w' => w'.cell? ⟨gb137, 0, none⟩ = some (.int .i64 x138000_2) ∧ w'.cell? ⟨gb137, 1, none⟩ = some (.int .i64 x138001_2) ∧ w'.cell? ⟨gb137, 2, none⟩ = some (.int .i64 x138002_2) ∧ w'.cell? ⟨gb137, 3, none⟩ = some (.int .i64 x138003_2) ∧ w'.cell? ⟨gb147, 0, none⟩ = some (.int .i64 t143) ∧ w'.cell? ⟨gb147, 1, none⟩ = some (.int .i64 t144) ∧ w'.cell? ⟨gb147, 2, none⟩ = some (.int .i64 t145) ∧ w'.cell? (ad138.add ((x9_2).toNat * 2)) = some (.int .i64 ((rd_T43 l1 x9_2).f0)) ∧ w'.cell? ⟨(ad138.add ((x9_2).toNat * 2)).block, (ad138.add ((x9_2).toNat * 2)).off + 1, none⟩ = some (.int .i64 ((rd_T43 l1 x9_2).f1)) ∧ w'.cell? (ad138.add ((x9_2).toNat * 2)) = some (.int .i64 ((rd_T43 l1 x9_2).f0)) ∧ w'.cell? ⟨(ad138.add ((x9_2).toNat * 2)).block, (ad138.add ((x9_2).toNat * 2)).off + 1, none⟩ = some (.int .i64 ((rd_T43 l1 x9_2).f1))) (ds := [16]) #[ff, ff, ff, ff, ff, ff, ff, ff, ff, ff, ff, ff, ff, ff, ff, ff, ff] (by kernel_rfl) rfl rfl ⟨(blk_cell BK137.out 0).trans rfl, (blk_cell BK137.out 1).trans rfl, (blk_cell BK137.out 2).trans rfl, (blk_cell BK137.out 3).trans rfl, (blk_cell BK147.out 0).trans rfl, (blk_cell BK147.out 1).trans rfl, (blk_cell BK147.out 2).trans rfl, ((HB.out.cell (World.block_lt_of_cell? w _ hw154_0)).trans hw154_0), ((HB.out.cell (World.block_lt_of_cell? w _ hw154_1)).trans hw154_1), ((HB.out.cell (World.block_lt_of_cell? w _ hw155_0)).trans hw155_0), ((HB.out.cell (World.block_lt_of_cell? w _ hw155_1)).trans hw155_1)⟩ (fun hHeld => ?_); refine with_tabW lawAll.tab15 lawAll.bits15 (fun HT_ HW_ => ?_)
           generalize w68.drew = w95 at HO_6 HO142 BK131 BK137 BK147 HB hx154_0 hx154_1 hx155_0 hx155_1 hHeld ⊢
           refine pure_ (i := 0) (N := some 124) (v := ?_) (a' := ?_) #[tt, ff, ff, ff, ff, ff, ff, ff, ff, ff, ff, ff, ff, ff, ff, ff, ff] rfl rfl (any_of HT_.out (by kernel_rfl)) (fun _ _ _ h => h) (Or.inl ⟨by rfl, ?_⟩) ?_ ?_
           rotate_left; (· intro w'; go_simp; with_reducible rfl); rotate_left; (· simp only [Act.put, sA, sB, sC, i64_w, i32_w]; rfl)
           refine pure_ (i := 1) (N := some 125) (v := ?_) (a' := ?_) #[tt, tt, ff, ff, ff, ff, ff, ff, ff, ff, ff, ff, ff, ff, ff, ff, ff] rfl rfl (any_of HT_.out (by kernel_rfl)) (fun _ _ _ h => h) (Or.inl ⟨by rfl, ?_⟩) ?_ ?_
           rotate_left; (· intro w'; go_simp; with_reducible rfl); rotate_left; (· simp only [Act.put, sA, sB, sC, i64_w, i32_w]; rfl)
           refine pure_ (i := 2) (N := some 126) (v := ?_) (a' := ?_) #[tt, tt, tt, ff, ff, ff, ff, ff, ff, ff, ff, ff, ff, ff, ff, ff, ff] rfl rfl (any_of HT_.out (by kernel_rfl)) (fun _ _ _ h => h) (Or.inl ⟨by rfl, ?_⟩) ?_ ?_
           rotate_left; (· intro w'; go_simp; with_reducible rfl); rotate_left; (· simp only [Act.put, sA, sB, sC, i64_w, i32_w]; rfl)
           refine pure_ (i := 3) (N := some 127) (v := ?_) (a' := ?_) #[tt, tt, tt, tt, ff, ff, ff, ff, ff, ff, ff, ff, ff, ff, ff, ff, ff] rfl rfl (any_of HT_.out (by kernel_rfl)) (fun _ _ _ h => h) (Or.inl ⟨by rfl, ?_⟩) ?_ ?_
           rotate_left; (· intro w'; go_simp; with_reducible rfl); rotate_left; (· simp only [Act.put, sA, sB, sC, i64_w, i32_w]; rfl)
           refine pure_ (i := 5) (N := some 129) (v := ?_) (a' := ?_) #[tt, tt, tt, tt, ff, tt, ff, ff, ff, ff, ff, ff, ff, ff, ff, ff, ff] rfl rfl (any_of HT_.out (by kernel_rfl)) (fun _ _ _ h => h) (Or.inl ⟨by rfl, ?_⟩) ?_ ?_
           rotate_left; (· intro w'; go_simp; with_reducible rfl); rotate_left; (· simp only [Act.put, sA, sB, sC, i64_w, i32_w]; rfl)
           refine pure_ (i := 6) (N := some 130) (v := ?_) (a' := ?_) #[tt, tt, tt, tt, ff, tt, tt, ff, ff, ff, ff, ff, ff, ff, ff, ff, ff] rfl rfl (any_of HT_.out (by kernel_rfl)) (fun _ _ _ h => h) (Or.inl ⟨by rfl, ?_⟩) ?_ ?_
           rotate_left; (· intro w'; go_simp; with_reducible rfl); rotate_left; (· simp only [Act.put, sA, sB, sC, i64_w, i32_w]; rfl)
           refine pure_ (i := 7) (N := some 131) (v := ?_) (a' := ?_) #[tt, tt, tt, tt, ff, tt, tt, tt, ff, ff, ff, ff, ff, ff, ff, ff, ff] rfl rfl (any_of HT_.out (by kernel_rfl)) (fun _ _ _ h => h) (Or.inl ⟨by rfl, ?_⟩) ?_ ?_
           rotate_left; (· intro w'; go_simp; with_reducible rfl); rotate_left; (· simp only [Act.put, sA, sB, sC, i64_w, i32_w]; rfl)
           refine pure_ (i := 8) (N := some 132) (v := ?_) (a' := ?_) #[tt, tt, tt, tt, ff, tt, tt, tt, tt, ff, ff, ff, ff, ff, ff, ff, ff] rfl rfl (any_of HT_.out (by kernel_rfl)) (fun _ _ _ h => h) (Or.inl ⟨by rfl, ?_⟩) ?_ ?_
           rotate_left; (· intro w'; go_simp; with_reducible rfl); rotate_left; (· simp only [Act.put, sA, sB, sC, i64_w, i32_w]; rfl)
           refine pure_ (i := 12) (N := some 136) (v := ?_) (a' := ?_) #[tt, tt, tt, tt, ff, tt, tt, tt, tt, ff, ff, ff, tt, ff, ff, ff, ff] rfl rfl (any_of HT_.out (by kernel_rfl)) (fun _ _ _ h => h) (Or.inl ⟨by rfl, ?_⟩) ?_ ?_
           rotate_left; (· intro w'; go_simp; with_reducible rfl); rotate_left; (· simp only [Act.put, sA, sB, sC, i64_w, i32_w]; rfl)
           refine take_ (i := 4) (N := some 128) (v := ?_) (a' := ?_) #[tt, tt, tt, tt, tt, tt, tt, tt, tt, ff, ff, ff, tt, ff, ff, ff, ff] rfl rfl (take_ofW HT_.out HW_.out (by kernel_rfl)) (fun _ _ _ h => h) (Or.inl ⟨by rfl, ?_⟩) hHeld ?_ ?_
           rotate_left; (· rintro w' ⟨s0, s1, s2, s3, s4, s5, s6, s7, s8, s9, s10⟩; go_simp; with_reducible rfl); rotate_left; (· simp only [Act.put, sA, sB, sC, i64_w, i32_w]; rfl)
           refine take_ (i := 9) (N := some 133) (v := ?_) (a' := ?_) #[tt, tt, tt, tt, tt, tt, tt, tt, tt, tt, ff, ff, tt, ff, ff, ff, ff] rfl rfl (take_ofW HT_.out HW_.out (by kernel_rfl)) (fun _ _ _ h => h) (Or.inl ⟨by rfl, ?_⟩) hHeld ?_ ?_
           rotate_left; (· rintro w' ⟨s0, s1, s2, s3, s4, s5, s6, s7, s8, s9, s10⟩; go_simp; with_reducible rfl); rotate_left; (· simp only [Act.put, sA, sB, sC, i64_w, i32_w]; rfl)
           have cE_ := HEQ_.out
           refine pure_ (i := 10) (N := some 134) (v := ?_) (a' := ?_) #[tt, tt, tt, tt, tt, tt, tt, tt, tt, tt, tt, ff, tt, ff, ff, ff, ff] rfl rfl (any_of HT_.out (by kernel_rfl)) (fun _ _ _ h => h) (Or.inl ⟨by rfl, ?_⟩) ?_ ?_
           rotate_left; (· intro w'; go_simp; with_reducible rfl); rotate_left; (· simp only [Act.put, sA, sB, sC, i64_w, i32_w]; rfl)
           clear cE_
           refine take_ (i := 11) (N := some 135) (v := ?_) (a' := ?_) #[tt, tt, tt, tt, tt, tt, tt, tt, tt, tt, tt, tt, tt, ff, ff, ff, ff] rfl rfl (take_ofW HT_.out HW_.out (by kernel_rfl)) (fun _ _ _ h => h) (Or.inl ⟨by rfl, ?_⟩) hHeld ?_ ?_
           rotate_left; (· rintro w' ⟨s0, s1, s2, s3, s4, s5, s6, s7, s8, s9, s10⟩; go_simp; with_reducible rfl); rotate_left; (· simp only [Act.put, sA, sB, sC, i64_w, i32_w]; rfl)
           refine take_ (i := 13) (N := some 137) (v := ?_) (a' := ?_) #[tt, tt, tt, tt, tt, tt, tt, tt, tt, tt, tt, tt, tt, tt, ff, ff, ff] rfl rfl (take_ofW HT_.out HW_.out (by kernel_rfl)) (fun _ _ _ h => h) (Or.inl ⟨by rfl, ?_⟩) hHeld ?_ ?_
           rotate_left; (· rintro w' ⟨s0, s1, s2, s3, s4, s5, s6, s7, s8, s9, s10⟩; go_simp; with_reducible rfl); rotate_left; (· simp only [Act.put, sA, sB, sC, i64_w, i32_w]; rfl)
           refine pure_ (i := 14) (N := some 138) (v := ?_) (a' := ?_) #[tt, tt, tt, tt, tt, tt, tt, tt, tt, tt, tt, tt, tt, tt, tt, ff, ff] rfl rfl (any_of HT_.out (by kernel_rfl)) (fun _ _ _ h => h) (Or.inl ⟨by rfl, ?_⟩) ?_ ?_
           rotate_left; (· intro w'; go_simp; with_reducible rfl); rotate_left; (· simp only [Act.put, sA, sB, sC, i64_w, i32_w]; rfl)
           have cE_ := HEQ_.out
           refine pure_ (i := 15) (N := some 139) (v := ?_) (a' := ?_) #[tt, tt, tt, tt, tt, tt, tt, tt, tt, tt, tt, tt, tt, tt, tt, tt, ff] rfl rfl (any_of HT_.out (by kernel_rfl)) (fun _ _ _ h => h) (Or.inl ⟨by rfl, ?_⟩) ?_ ?_
           rotate_left; (· intro w'; go_simp; with_reducible rfl); rotate_left; (· simp only [Act.put, sA, sB, sC, i64_w, i32_w]; rfl)
           clear cE_
           refine last_ (i := 16) (N := none) #[tt, tt, tt, tt, tt, tt, tt, tt, tt, tt, tt, tt, tt, tt, tt, tt, tt] rfl rfl (one_of HT_.out (by kernel_rfl)) (by decide) (fun K hK => ?_)
           have hs96 : w95.cell? ⟨gb137, 2, none⟩ = some (.int .i64 x138002_2) := (blk_cell BK137.out 2).trans rfl
           have hfs96 := blk_frozen BK137.out 2
           have hns96_0 := NB131_137.out
           have hns96_2 := NB147_137.out
           have hms96_0 := NB137_131.out
           have hms96_2 := NB137_147.out
           refine skip_ (w1 := ?_) (by rfl) rfl ?_ ?_
           rotate_left
           ·go_simp
            rfl
           refine hK.out _ _ ?_
           clear hK K
           refine done_ (done_of HT_.out (by kernel_rfl)) ?_
           try go_wp2
           go_roundg k2
           case measure => have := HJ3.out; have := HK2.out; omega
           case rel => exact ⟨(t140), (wrap64 (x9_2 + 1)), (x138000_2), (x138001_2), (wrap64 (x138002_2 + t145)), (x138003_2), (by first | rfl | (simp; done) | (simp [*]; done)), H', ⟨by have := HJ3.out; have := HK2.out; omega⟩, ⟨by (with_reducible repeat (first | apply Kd.S_alloc | apply Kd.S_drewN | apply Kd.S_drew)); exact Kd.S_mono (Kd.S_far (p := ⟨gb137, 2, none⟩) (Kd.S_types HO142.out BK137.out (by decide)) (fun _ hk => hk.2) (.int .i64 (wrap64 (x138002_2 + t145)))) (fun _ hk => hk.1.2.1)⟩, ⟨by (with_reducible repeat (first | apply blk_drewN | apply blk_drew | apply blk_alloc)); refine blk_far ?_ NB131_137.out _; (with_reducible repeat (first | apply blk_drewN | apply blk_drew | apply blk_alloc)); exact BK131.out⟩, ⟨by (with_reducible repeat (first | apply blk_drewN | apply blk_drew | apply blk_alloc)); refine blk_put (cs := #[.int .i64 x138000_2, .int .i64 x138001_2, .int .i64 x138002_2, .int .i64 x138003_2]) ?_ 2 _ rfl; (with_reducible repeat (first | apply blk_drewN | apply blk_drew | apply blk_alloc)); exact BK137.out⟩, ⟨by repeat (first | (with_reducible first | exact HB.out | apply below_alloc | apply pw_below_drewN | apply below_drew1 | refine below_set ?_ GE131.out | refine below_set ?_ GE137.out | refine below_set ?_ GE147.out) | exact HB.out)⟩⟩
         as_aux_lemma =>
          rw [if_neg c84] at H
          clear c84
          by_cases c97 : ((rd_T43 l1 x9_2).f0) = 3
          rotate_left
          ·rw [if_neg c97] at H; exact absurd H (by simp)
          as_aux_lemma =>
           rw [if_pos c97] at H
           have c97b0 : (((rd_T43 l1 x9_2).f0) == 3) = true := beq_iff_eq.mpr c97
           have c97b1 : (((rd_T43 l1 x9_2).f0) != 3) = false := bne_eq_false_iff_eq.mpr c97
           have HEQ_ := Aside0.mk c97
           clear c97
           have H' := Aside0.mk H
           clear H
           refine start_ (n := 17) (S := fun w' => w'.cell? ⟨gb137, 0, none⟩ = some (.int .i64 x138000_2) ∧ w'.cell? ⟨gb137, 1, none⟩ = some (.int .i64 x138001_2) ∧ w'.cell? ⟨gb137, 2, none⟩ = some (.int .i64 x138002_2) ∧ w'.cell? ⟨gb137, 3, none⟩ = some (.int .i64 x138003_2) ∧ w'.cell? ⟨gb147, 0, none⟩ = some (.int .i64 t143) ∧ w'.cell? ⟨gb147, 1, none⟩ = some (.int .i64 t144) ∧ w'.cell? ⟨gb147, 2, none⟩ = some (.int .i64 t145) ∧ w'.cell? (ad138.add ((x9_2).toNat * 2)) = some (.int .i64 ((rd_T43 l1 x9_2).f0)) ∧ w'.cell? ⟨(ad138.add ((x9_2).toNat * 2)).block, (ad138.add ((x9_2).toNat * 2)).off + 1, none⟩ = some (.int .i64 ((rd_T43 l1 x9_2).f1)) ∧ w'.cell? (ad138.add ((x9_2).toNat * 2)) = some (.int .i64 ((rd_T43 l1 x9_2).f0)) ∧ w'.cell? ⟨(ad138.add ((x9_2).toNat * 2)).block, (ad138.add ((x9_2).toNat * 2)).off + 1, none⟩ = some (.int .i64 ((rd_T43 l1 x9_2).f1))) (ds := [16]) #[ff, ff, ff, ff, ff, ff, ff, ff, ff, ff, ff, ff, ff, ff, ff, ff, ff] (by kernel_rfl) rfl rfl ⟨(blk_cell BK137.out 0).trans rfl, (blk_cell BK137.out 1).trans rfl, (blk_cell BK137.out 2).trans rfl, (blk_cell BK137.out 3).trans rfl, (blk_cell BK147.out 0).trans rfl, (blk_cell BK147.out 1).trans rfl, (blk_cell BK147.out 2).trans rfl, ((HB.out.cell (World.block_lt_of_cell? w _ hw154_0)).trans hw154_0), ((HB.out.cell (World.block_lt_of_cell? w _ hw154_1)).trans hw154_1), ((HB.out.cell (World.block_lt_of_cell? w _ hw155_0)).trans hw155_0), ((HB.out.cell (World.block_lt_of_cell? w _ hw155_1)).trans hw155_1)⟩ (fun hHeld => ?_); refine with_tabW lawAll.tab15 lawAll.bits15 (fun HT_ HW_ => ?_)
           generalize w68.drew = w108 at HO_6 HO142 BK131 BK137 BK147 HB hx154_0 hx154_1 hx155_0 hx155_1 hHeld ⊢
           refine pure_ (i := 0) (N := some 124) (v := ?_) (a' := ?_) #[tt, ff, ff, ff, ff, ff, ff, ff, ff, ff, ff, ff, ff, ff, ff, ff, ff] rfl rfl (any_of HT_.out (by kernel_rfl)) (fun _ _ _ h => h) (Or.inl ⟨by rfl, ?_⟩) ?_ ?_
           rotate_left; (· intro w'; go_simp; with_reducible rfl); rotate_left; (· simp only [Act.put, sA, sB, sC, i64_w, i32_w]; rfl)
           refine pure_ (i := 1) (N := some 125) (v := ?_) (a' := ?_) #[tt, tt, ff, ff, ff, ff, ff, ff, ff, ff, ff, ff, ff, ff, ff, ff, ff] rfl rfl (any_of HT_.out (by kernel_rfl)) (fun _ _ _ h => h) (Or.inl ⟨by rfl, ?_⟩) ?_ ?_
           rotate_left; (· intro w'; go_simp; with_reducible rfl); rotate_left; (· simp only [Act.put, sA, sB, sC, i64_w, i32_w]; rfl)
           refine pure_ (i := 2) (N := some 126) (v := ?_) (a' := ?_) #[tt, tt, tt, ff, ff, ff, ff, ff, ff, ff, ff, ff, ff, ff, ff, ff, ff] rfl rfl (any_of HT_.out (by kernel_rfl)) (fun _ _ _ h => h) (Or.inl ⟨by rfl, ?_⟩) ?_ ?_
           rotate_left; (· intro w'; go_simp; with_reducible rfl); rotate_left; (· simp only [Act.put, sA, sB, sC, i64_w, i32_w]; rfl)
           refine pure_ (i := 3) (N := some 127) (v := ?_) (a' := ?_) #[tt, tt, tt, tt, ff, ff, ff, ff, ff, ff, ff, ff, ff, ff, ff, ff, ff] rfl rfl (any_of HT_.out (by kernel_rfl)) (fun _ _ _ h => h) (Or.inl ⟨by rfl, ?_⟩) ?_ ?_
           rotate_left; (· intro w'; go_simp; with_reducible rfl); rotate_left; (· simp only [Act.put, sA, sB, sC, i64_w, i32_w]; rfl)
           refine pure_ (i := 5) (N := some 129) (v := ?_) (a' := ?_) #[tt, tt, tt, tt, ff, tt, ff, ff, ff, ff, ff, ff, ff, ff, ff, ff, ff] rfl rfl (any_of HT_.out (by kernel_rfl)) (fun _ _ _ h => h) (Or.inl ⟨by rfl, ?_⟩) ?_ ?_
           rotate_left; (· intro w'; go_simp; with_reducible rfl); rotate_left; (· simp only [Act.put, sA, sB, sC, i64_w, i32_w]; rfl)
           refine pure_ (i := 6) (N := some 130) (v := ?_) (a' := ?_) #[tt, tt, tt, tt, ff, tt, tt, ff, ff, ff, ff, ff, ff, ff, ff, ff, ff] rfl rfl (any_of HT_.out (by kernel_rfl)) (fun _ _ _ h => h) (Or.inl ⟨by rfl, ?_⟩) ?_ ?_
           rotate_left; (· intro w'; go_simp; with_reducible rfl); rotate_left; (· simp only [Act.put, sA, sB, sC, i64_w, i32_w]; rfl)
           refine pure_ (i := 7) (N := some 131) (v := ?_) (a' := ?_) #[tt, tt, tt, tt, ff, tt, tt, tt, ff, ff, ff, ff, ff, ff, ff, ff, ff] rfl rfl (any_of HT_.out (by kernel_rfl)) (fun _ _ _ h => h) (Or.inl ⟨by rfl, ?_⟩) ?_ ?_
           rotate_left; (· intro w'; go_simp; with_reducible rfl); rotate_left; (· simp only [Act.put, sA, sB, sC, i64_w, i32_w]; rfl)
           refine pure_ (i := 8) (N := some 132) (v := ?_) (a' := ?_) #[tt, tt, tt, tt, ff, tt, tt, tt, tt, ff, ff, ff, ff, ff, ff, ff, ff] rfl rfl (any_of HT_.out (by kernel_rfl)) (fun _ _ _ h => h) (Or.inl ⟨by rfl, ?_⟩) ?_ ?_
           rotate_left; (· intro w'; go_simp; with_reducible rfl); rotate_left; (· simp only [Act.put, sA, sB, sC, i64_w, i32_w]; rfl)
           refine pure_ (i := 12) (N := some 136) (v := ?_) (a' := ?_) #[tt, tt, tt, tt, ff, tt, tt, tt, tt, ff, ff, ff, tt, ff, ff, ff, ff] rfl rfl (any_of HT_.out (by kernel_rfl)) (fun _ _ _ h => h) (Or.inl ⟨by rfl, ?_⟩) ?_ ?_
           rotate_left; (· intro w'; go_simp; with_reducible rfl); rotate_left; (· simp only [Act.put, sA, sB, sC, i64_w, i32_w]; rfl)
           refine take_ (i := 4) (N := some 128) (v := ?_) (a' := ?_) #[tt, tt, tt, tt, tt, tt, tt, tt, tt, ff, ff, ff, tt, ff, ff, ff, ff] rfl rfl (take_ofW HT_.out HW_.out (by kernel_rfl)) (fun _ _ _ h => h) (Or.inl ⟨by rfl, ?_⟩) hHeld ?_ ?_
           rotate_left; (· rintro w' ⟨s0, s1, s2, s3, s4, s5, s6, s7, s8, s9, s10⟩; go_simp; with_reducible rfl); rotate_left; (· simp only [Act.put, sA, sB, sC, i64_w, i32_w]; rfl)
           refine take_ (i := 9) (N := some 133) (v := ?_) (a' := ?_) #[tt, tt, tt, tt, tt, tt, tt, tt, tt, tt, ff, ff, tt, ff, ff, ff, ff] rfl rfl (take_ofW HT_.out HW_.out (by kernel_rfl)) (fun _ _ _ h => h) (Or.inl ⟨by rfl, ?_⟩) hHeld ?_ ?_
           rotate_left; (· rintro w' ⟨s0, s1, s2, s3, s4, s5, s6, s7, s8, s9, s10⟩; go_simp; with_reducible rfl); rotate_left; (· simp only [Act.put, sA, sB, sC, i64_w, i32_w]; rfl)
           have cE_ := HEQ_.out
           refine pure_ (i := 10) (N := some 134) (v := ?_) (a' := ?_) #[tt, tt, tt, tt, tt, tt, tt, tt, tt, tt, tt, ff, tt, ff, ff, ff, ff] rfl rfl (any_of HT_.out (by kernel_rfl)) (fun _ _ _ h => h) (Or.inl ⟨by rfl, ?_⟩) ?_ ?_
           rotate_left; (· intro w'; go_simp; with_reducible rfl); rotate_left; (· simp only [Act.put, sA, sB, sC, i64_w, i32_w]; rfl)
           clear cE_
           refine take_ (i := 11) (N := some 135) (v := ?_) (a' := ?_) #[tt, tt, tt, tt, tt, tt, tt, tt, tt, tt, tt, tt, tt, ff, ff, ff, ff] rfl rfl (take_ofW HT_.out HW_.out (by kernel_rfl)) (fun _ _ _ h => h) (Or.inl ⟨by rfl, ?_⟩) hHeld ?_ ?_
           rotate_left; (· rintro w' ⟨s0, s1, s2, s3, s4, s5, s6, s7, s8, s9, s10⟩; go_simp; with_reducible rfl); rotate_left; (· simp only [Act.put, sA, sB, sC, i64_w, i32_w]; rfl)
           refine take_ (i := 13) (N := some 137) (v := ?_) (a' := ?_) #[tt, tt, tt, tt, tt, tt, tt, tt, tt, tt, tt, tt, tt, tt, ff, ff, ff] rfl rfl (take_ofW HT_.out HW_.out (by kernel_rfl)) (fun _ _ _ h => h) (Or.inl ⟨by rfl, ?_⟩) hHeld ?_ ?_
           rotate_left; (· rintro w' ⟨s0, s1, s2, s3, s4, s5, s6, s7, s8, s9, s10⟩; go_simp; with_reducible rfl); rotate_left; (· simp only [Act.put, sA, sB, sC, i64_w, i32_w]; rfl)
           refine pure_ (i := 14) (N := some 138) (v := ?_) (a' := ?_) #[tt, tt, tt, tt, tt, tt, tt, tt, tt, tt, tt, tt, tt, tt, tt, ff, ff] rfl rfl (any_of HT_.out (by kernel_rfl)) (fun _ _ _ h => h) (Or.inl ⟨by rfl, ?_⟩) ?_ ?_
           rotate_left; (· intro w'; go_simp; with_reducible rfl); rotate_left; (· simp only [Act.put, sA, sB, sC, i64_w, i32_w]; rfl)
           have cE_ := HEQ_.out
           refine pure_ (i := 15) (N := some 139) (v := ?_) (a' := ?_) #[tt, tt, tt, tt, tt, tt, tt, tt, tt, tt, tt, tt, tt, tt, tt, tt, ff] rfl rfl (any_of HT_.out (by kernel_rfl)) (fun _ _ _ h => h) (Or.inl ⟨by rfl, ?_⟩) ?_ ?_
           rotate_left; (· intro w'; go_simp; with_reducible rfl); rotate_left; (· simp only [Act.put, sA, sB, sC, i64_w, i32_w]; rfl)
           clear cE_
           refine last_ (i := 16) (N := none) #[tt, tt, tt, tt, tt, tt, tt, tt, tt, tt, tt, tt, tt, tt, tt, tt, tt] rfl rfl (one_of HT_.out (by kernel_rfl)) (by decide) (fun K hK => ?_)
           have hs109 : w108.cell? ⟨gb137, 3, none⟩ = some (.int .i64 x138003_2) := (blk_cell BK137.out 3).trans rfl
           have hfs109 := blk_frozen BK137.out 3
           have hns109_0 := NB131_137.out
           have hns109_2 := NB147_137.out
           have hms109_0 := NB137_131.out
           have hms109_2 := NB137_147.out
           refine skip_ (w1 := ?_) (by rfl) rfl ?_ ?_
           rotate_left
           ·go_simp
            rfl
           refine hK.out _ _ ?_
           clear hK K
           refine done_ (done_of HT_.out (by kernel_rfl)) ?_
           try go_wp2
           go_roundg k2
           case measure => have := HJ3.out; have := HK2.out; omega
           case rel => exact ⟨(t140), (wrap64 (x9_2 + 1)), (x138000_2), (x138001_2), (x138002_2), (wrap64 (x138003_2 + t145)), (by first | rfl | (simp; done) | (simp [*]; done)), H', ⟨by have := HJ3.out; have := HK2.out; omega⟩, ⟨by (with_reducible repeat (first | apply Kd.S_alloc | apply Kd.S_drewN | apply Kd.S_drew)); exact Kd.S_mono (Kd.S_far (p := ⟨gb137, 3, none⟩) (Kd.S_types HO142.out BK137.out (by decide)) (fun _ hk => hk.2) (.int .i64 (wrap64 (x138003_2 + t145)))) (fun _ hk => hk.1.2.1)⟩, ⟨by (with_reducible repeat (first | apply blk_drewN | apply blk_drew | apply blk_alloc)); refine blk_far ?_ NB131_137.out _; (with_reducible repeat (first | apply blk_drewN | apply blk_drew | apply blk_alloc)); exact BK131.out⟩, ⟨by (with_reducible repeat (first | apply blk_drewN | apply blk_drew | apply blk_alloc)); refine blk_put (cs := #[.int .i64 x138000_2, .int .i64 x138001_2, .int .i64 x138002_2, .int .i64 x138003_2]) ?_ 3 _ rfl; (with_reducible repeat (first | apply blk_drewN | apply blk_drew | apply blk_alloc)); exact BK137.out⟩, ⟨by repeat (first | (with_reducible first | exact HB.out | apply below_alloc | apply pw_below_drewN | apply below_drew1 | refine below_set ?_ GE131.out | refine below_set ?_ GE137.out | refine below_set ?_ GE147.out) | exact HB.out)⟩⟩
end Go.Proofs.Ytjhdjkanepdgiaa.Pk
