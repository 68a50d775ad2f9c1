/- Plain functions, and the walks that show that the Go functions come to them: written by this session's program wip/myprint.py, which runs the kit's print over the translation. No conditions beside those that each contract states. -/
import Derived.Test.YtjhdjkanepdgiaaPh0
import Derived.Test.YtjhdjkanepdgiaaPh2
import Derived.Test.YtjhdjkanepdgiaaBookExt
import Derived.Test.YtjhdjkanepdgiaaBookExt2
import Derived.Test.YtjhdjkanepdgiaaBookExt3
import Derived.Test.YtjhdjkanepdgiaaPa0
import Derived.Test.YtjhdjkanepdgiaaPa1
import Derived.Test.YtjhdjkanepdgiaaPa2
import Derived.Test.YtjhdjkanepdgiaaPa3
import Derived.Test.YtjhdjkanepdgiaaPa4
import Derived.Test.YtjhdjkanepdgiaaPa4o
import Derived.Test.YtjhdjkanepdgiaaPb0
import Derived.Test.YtjhdjkanepdgiaaPb1
import Derived.Test.YtjhdjkanepdgiaaPb2
import Derived.Test.YtjhdjkanepdgiaaPb3
import Derived.Test.YtjhdjkanepdgiaaPaq
namespace Go.Proofs.Ytjhdjkanepdgiaa.Ph
open Go.Proofs.Ytjhdjkanepdgiaa.Pa Go.Proofs.Ytjhdjkanepdgiaa.Ext
open Go.RowKit Go.Proofs.YtjhdjkanepdgiaaW.PrintWords Go.Proofs.YtjhdjkanepdgiaaW.PrintLast Go.Proofs.YtjhdjkanepdgiaaW.PrintMore
attribute [local go_sem] max2_int min2_int max_two min_two max_three min_three max_four min_four   -- for this text's walks alone
set_option linter.unusedVariables false
set_option linter.unusedSimpArgs false
 
/-! ### quartermasterref18_Ship: function 17 -/
mutual
def quartermasterref18_Ship.j0 : Nat → List (S25) → Int → Int → Int → Int → Bool → Option ((List (S25)) × Int × Int × Int × Int)
 | 0, _, _, _, _, _, _ => none
 | k + 1, x0, x1, x2, x3, x12, x41 => if x41 = true then (some (([] : List (S25)), 0, 0, 0, 3)) else (if x3 ≤ 0 then (some (([] : List (S25)), 0, 0, 0, 1)) else (if 0 ≤ x12 then (if x12 < (x0.length : Int) then (if 0 ≤ x2 then (if x2 < (((rd_T25 x0 x12).f2).length : Int) then (if ((rd_T33 ((rd_T25 x0 x12).f2) x2).f2) < x3 then (some (([] : List (S25)), 0, 0, 0, 31)) else (if ([] : List (S33)).length + ((rd_T25 x0 x12).f2).length < 5864062014805 then ((some (([] : List (S33)) ++ ((rd_T25 x0 x12).f2) : List (S33))).bind fun y164 => (if x2 < (y164.length : Int) then (quartermasterref18_Ship.l0 k x0 x1 x12 (y164.set (x2 : Int).toNat (⟨(rd_T33 y164 x2).f0, (rd_T33 y164 x2).f1, wrap64 (((rd_T33 y164 x2).f2) - x3)⟩ : S33)) false 0 ((rd_T33 y164 x2).f0) ((rd_T33 y164 x2).f1) x3) else (none))) else (none))) else (none)) else (none)) else (none)) else (none)))
def quartermasterref18_Ship.l0 : Nat → List (S25) → Int → Int → List (S33) → Bool → Int → Int → Int → Int → Option ((List (S25)) × Int × Int × Int × Int)
 | 0, _, _, _, _, _, _, _, _, _ => none
 | k + 1, x0, x1, x12, x13, x15, x16, x170000, x170001, x170002 => if x16 < (x13.length : Int) then (if x15 = true then (quartermasterref18_Ship.l0 k x0 x1 x12 x13 true (wrap64 (x16 + 1)) x170000 x170001 x170002) else (if 0 ≤ x16 then (quartermasterref18_Ship.l0 k x0 x1 x12 x13 (decide (((rd_T33 x13 x16).f2) > 0)) (wrap64 (x16 + 1)) x170000 x170001 x170002) else (none))) else (if x15 = true then (if ([] : List (S25)).length + x0.length < 3518437208883 then ((some (([] : List (S25)) ++ x0 : List (S25))).bind fun y173 => (if 0 ≤ x12 then (if x12 < (x0.length : Int) then (if x12 < (y173.length : Int) then (some ((y173.set (x12 : Int).toNat (⟨x1, (rd_T25 x0 x12).f1, x13⟩ : S25)), x170000, x170001, x170002, 0)) else (none)) else (none)) else (none))) else (none)) else ((quartermasterref18_without.f x0 x12).bind fun t178 => (some (t178, x170000, x170001, x170002, 0))))
end
def quartermasterref18_Ship.f (k : Nat) (l0 : List (S25)) (a1 : Int) (a2 : Int) (a3 : Int) : Option ((List (S25)) × Int × Int × Int × Int) := (Pa.quartermasterref18_May.f k l0).bind fun t158 => (if t158 = true then ((Pa.quartermasterref18_At.f k l0 a1).bind fun t159 => (if t159 < 0 then (quartermasterref18_Ship.j0 k l0 a1 a2 a3 t159 true) else (if a2 < 0 then (quartermasterref18_Ship.j0 k l0 a1 a2 a3 t159 true) else (if 0 ≤ t159 then (if t159 < (l0.length : Int) then (quartermasterref18_Ship.j0 k l0 a1 a2 a3 t159 (decide (a2 ≥ (((rd_T25 l0 t159).f2).length : Int)))) else (none)) else (none))))) else (some (([] : List (S25)), 0, 0, 0, 1)))
theorem quartermasterref18_Ship.mono_l : ∀ k, (∀ y0 y1 y2 y3 y4 y5, LeO (quartermasterref18_Ship.j0 k y0 y1 y2 y3 y4 y5) (quartermasterref18_Ship.j0 (k + 1) y0 y1 y2 y3 y4 y5)) ∧ (∀ y0 y1 y2 y3 y4 y5 y6 y7 y8, LeO (quartermasterref18_Ship.l0 k y0 y1 y2 y3 y4 y5 y6 y7 y8) (quartermasterref18_Ship.l0 (k + 1) y0 y1 y2 y3 y4 y5 y6 y7 y8))
 | 0 => ⟨fun _ _ _ _ _ _ r h => by simp [quartermasterref18_Ship.j0] at h, fun _ _ _ _ _ _ _ _ _ r h => by simp [quartermasterref18_Ship.l0] at h⟩
 | k + 1 => by
  obtain ⟨ih0, ih1⟩ := quartermasterref18_Ship.mono_l k
  refine ⟨?_, ?_⟩
  ·intro y0 y1 y2 y3 y4 y5
   unfold quartermasterref18_Ship.j0
   repeat' first
   | (with_reducible exact ih0 _ _ _ _ _ _)
   | (with_reducible exact ih1 _ _ _ _ _ _ _ _ _)
   | (with_reducible exact Pa.quartermasterref18_At.mono _ _ _)
   | (with_reducible exact Pa.quartermasterref18_May.mono _ _)
   | (with_reducible exact LeO.refl _)
   | (with_reducible exact LeO.none _)
   | (with_reducible refine LeO.ite ?_ ?_)
   | (with_reducible refine LeO.bind ?_ (fun _ => ?_))
   | exact ih0 _ _ _ _ _ _
   | exact ih1 _ _ _ _ _ _ _ _ _
   | exact Pa.quartermasterref18_At.mono _ _ _
   | exact Pa.quartermasterref18_May.mono _ _
   | exact LeO.none _
   | refine LeO.ite ?_ ?_
   | refine LeO.bind ?_ (fun _ => ?_)
  intro y0 y1 y2 y3 y4 y5 y6 y7 y8
  unfold quartermasterref18_Ship.l0
  repeat' first
  | (with_reducible exact ih0 _ _ _ _ _ _)
  | (with_reducible exact ih1 _ _ _ _ _ _ _ _ _)
  | (with_reducible exact Pa.quartermasterref18_At.mono _ _ _)
  | (with_reducible exact Pa.quartermasterref18_May.mono _ _)
  | (with_reducible exact LeO.refl _)
  | (with_reducible exact LeO.none _)
  | (with_reducible refine LeO.ite ?_ ?_)
  | (with_reducible refine LeO.bind ?_ (fun _ => ?_))
  | exact ih0 _ _ _ _ _ _
  | exact ih1 _ _ _ _ _ _ _ _ _
  | exact Pa.quartermasterref18_At.mono _ _ _
  | exact Pa.quartermasterref18_May.mono _ _
  | exact LeO.none _
  | refine LeO.ite ?_ ?_
  | refine LeO.bind ?_ (fun _ => ?_)
theorem quartermasterref18_Ship.mono : ∀ a0 a1 a2 a3 k, LeO (quartermasterref18_Ship.f k a0 a1 a2 a3) (quartermasterref18_Ship.f (k + 1) a0 a1 a2 a3) := by
 intro a0 a1 a2 a3 k
 obtain ⟨ih0, ih1⟩ := quartermasterref18_Ship.mono_l k
 unfold quartermasterref18_Ship.f
 repeat' first
  | (with_reducible exact ih0 _ _ _ _ _ _)
  | (with_reducible exact ih1 _ _ _ _ _ _ _ _ _)
  | (with_reducible exact Pa.quartermasterref18_At.mono _ _ _)
  | (with_reducible exact Pa.quartermasterref18_May.mono _ _)
  | (with_reducible exact LeO.refl _)
  | (with_reducible exact LeO.none _)
  | (with_reducible refine LeO.ite ?_ ?_)
  | (with_reducible refine LeO.bind ?_ (fun _ => ?_))
  | exact ih0 _ _ _ _ _ _
  | exact ih1 _ _ _ _ _ _ _ _ _
  | exact Pa.quartermasterref18_At.mono _ _ _
  | exact Pa.quartermasterref18_May.mono _ _
  | exact LeO.none _
  | refine LeO.ite ?_ ?_
  | refine LeO.bind ?_ (fun _ => ?_)
def quartermasterref18_Ship.T12 : Bool × List (List Nat × List Nat) := (true, [([], []), ([], []), ([0, 1], [0, 1]), ([2], [2]), ([3], [3]), ([], []), ([], []), ([5, 6], [5, 6]), ([7], [7]), ([8], [8]), ([], []), ([4, 9, 10], [4, 9, 10]), ([], []), ([12, 11, 0, 1, 2, 3, 4, 5, 6, 7, 8, 9, 10, 11, 12], [11, 12])])
def quartermasterref18_Ship.B12 : List Nat := [0, 0, 3, 7, 15, 0, 0, 96, 224, 480, 0, 2047, 0, 8191]
theorem quartermasterref18_Ship.tab12 : rtab .any (opsOf Try.f17 12) = quartermasterref18_Ship.T12 := by kernel_rfl
theorem quartermasterref18_Ship.bits12 : waitsOk quartermasterref18_Ship.T12.2 quartermasterref18_Ship.B12 = true := by kernel_rfl
set_option maxHeartbeats 8000000 in
set_option maxRecDepth 100000 in
theorem quartermasterref18_Ship.calls (k : Nat) (P0_ : Nat → Prop) (A0 : Option Addr) (c0 : Nat) (l0 : List (S25)) (a1 : Int) (a2 : Int) (a3 : Int) (r1 : List (S25)) (r2 : Int) (r3 : Int) (r4 : Int) (r5 : Int) (w : World) (hs0 : Kd.V k25 25 w w.heap.size (fun k_ => P0_ k_) (.slice A0 l0.length c0) l0) (h : quartermasterref18_Ship.f k l0 a1 a2 a3 = some (r1, r2, r3, r4, r5)) :
 Calls Try.prog 17 #[.slice A0 l0.length c0, .int .i64 a1, .int .i64 a2, .int .i64 a3] w fun e w' => ∃ v0_ : Value, e = .returned (.tuple #[v0_, .agg #[.int .i64 r2, .int .i64 r3, .int .i64 r4], .int .i64 r5]) ∧ Kd.N k25 25 w' w.heap.size (fun k_ => (P0_ k_ ∨ w.heap.size ≤ k_)) v0_ r1 ∧ Below w.heap.size w w' := by
 have hu33 := Try.underlying33
 have hu25 := Try.underlying25
 have HO0 := Aside0.mk (show Kd.V k25 25 w w.heap.size (fun k_ => (P0_ k_ ∨ w.heap.size ≤ k_)) (.slice A0 l0.length c0) l0 from Kd.V_mono hs0 (fun k_ hk => .inl hk))
 have HB := Aside0.mk (Below.refl w.heap.size w)
 have H : ((Pa.quartermasterref18_May.f k l0).bind fun t158 => (if t158 = true then ((Pa.quartermasterref18_At.f k l0 a1).bind fun t159 => (if t159 < 0 then (quartermasterref18_Ship.j0 k l0 a1 a2 a3 t159 true) else (if a2 < 0 then (quartermasterref18_Ship.j0 k l0 a1 a2 a3 t159 true) else (if 0 ≤ t159 then (if t159 < (l0.length : Int) then (quartermasterref18_Ship.j0 k l0 a1 a2 a3 t159 (decide (a2 ≥ (((rd_T25 l0 t159).f2).length : Int)))) else (none)) else (none))))) else (some (([] : List (S25)), 0, 0, 0, 1)))) = some (r1, r2, r3, r4, r5) := h
 clear h
 replace H := Option.bind_eq_some_iff.mp H
 obtain ⟨t158, A50, H⟩ := H
 replace H : (if t158 = true then ((Pa.quartermasterref18_At.f k l0 a1).bind fun t159 => (if t159 < 0 then (quartermasterref18_Ship.j0 k l0 a1 a2 a3 t159 true) else (if a2 < 0 then (quartermasterref18_Ship.j0 k l0 a1 a2 a3 t159 true) else (if 0 ≤ t159 then (if t159 < (l0.length : Int) then (quartermasterref18_Ship.j0 k l0 a1 a2 a3 t159 (decide (a2 ≥ (((rd_T25 l0 t159).f2).length : Int)))) else (none)) else (none))))) else (some (([] : List (S25)), 0, 0, 0, 1))) = some (r1, r2, r3, r4, r5) := H
 have A5 := Aside0.mk A50
 clear A50
 by_cases c6 : t158 = true
 rotate_left
 ·replace c6 := Bool.eq_false_iff.mpr c6
  subst c6
  have H1 : (some (([] : List (S25)), 0, 0, 0, 1)) = some (r1, r2, r3, r4, r5) := by rw [if_neg (show ¬ (false = true) by decide)] at H; exact H
  clear H
  have H := H1
  clear H1
  simp only [Option.some.injEq, Prod.mk.injEq] at H
  obtain ⟨rfl, rfl, rfl, rfl, rfl⟩ := H
  go_enter Try.func17, Try.ntmps17
  go_wp2_with (first | ((with_reducible refine gate_dst (N := 9) rfl ?_); (try (refine gate_guard (by rfl) ?_; dsimp only)); refine box_event ?hg (N := 9) ?hd (cs := #[.int .i64 0, .int .i64 0, .int .i64 0]) (t := 33) ?hr ?_; (case hd => rfl); (case hg => rfl); (case hr => first | (go_simp; done) | (go_simp; rfl)); intro gb157 hg w60 hbox hb; have n0_ := Aside0.mk (Kd.V_below (Kd.V_elderB (by (with_reducible repeat (first | apply Kd.V_alloc | apply Kd.V_drewN | apply Kd.V_drew)); exact HO0.out) gb157 (Nat.le_of_eq hg.symm)) hb); have n1_ := Aside0.mk (below_step (by repeat (first | (with_reducible first | exact HB.out | apply below_alloc | apply pw_below_drewN | apply below_drew1) | exact HB.out)) hb); have n2_ := Aside0.mk (hbox); have n3_ := Aside0.mk ((by rw [hg]; exact (below_size (by repeat (first | (with_reducible first | exact HB.out | apply below_alloc | apply pw_below_drewN | apply below_drew1) | exact HB.out))) : w.heap.size ≤ gb157)); have n4_ := Aside0.mk ((by rw [hg]; exact (below_size (by repeat (first | (with_reducible first | exact HB.out | apply below_alloc | apply pw_below_drewN | apply below_drew1) | exact HB.out))) : w.heap.size ≤ gb157)); clear HO0; clear HB; have HO0 := n0_; have HB := n1_; have BK157 := n2_; have GW157 := n3_; have GE157 := n4_; clear n0_ n1_ n2_ n3_ n4_; clear hb hbox hg) | ((with_reducible refine gate_callee (f := 22) rfl ?_); refine goesL_ (some 19) rfl rfl Try.func22 (by kernel_rfl) rfl #[.slice A0 l0.length c0] rfl (by (try simp only [List.map_toArray, List.map_cons, List.map_nil]); first | done | rfl | (simp only [List.length_drop, List.length_take]; rfl)) ?_; (with_reducible refine (Pa.quartermasterref18_May.calls k _ _ l0 false _ ?side1 ?side2 A5.out).mono ?_); (case side1 => repeat (first | exact (Kd.V_reads' HO0.out).2.2 | (with_reducible refine Kd.C_alloc ?_ _) | (with_reducible refine Kd.C_drewN ?_ _) | (with_reducible refine Kd.C_drew ?_))); (case side2 => exact (Kd.V_reads' HO0.out).2.1); rintro e w61 ⟨rfl, hb⟩; refine ⟨_, rfl, ?_⟩; have n0_ := Aside0.mk (Kd.V_below (by (with_reducible repeat (first | apply Kd.V_alloc | apply Kd.V_drewN | apply Kd.V_drew)); exact HO0.out) hb); have n1_ := Aside0.mk (blk_below (g := gb157) (o := .cells #[.int .i64 0, .int .i64 0, .int .i64 0] 33 (0, 0)) (by (with_reducible repeat (first | refine blk_drewN ?_ _ | refine blk_drew ?_ | refine blk_alloc ?_ _)); exact BK157.out) hb); have n2_ := Aside0.mk (below_step (by repeat (first | (with_reducible first | exact HB.out | apply below_alloc | apply pw_below_drewN | apply below_drew1 | refine below_set ?_ GE157.out) | exact HB.out)) hb); clear HO0; clear BK157; clear HB; have HO0 := n0_; have BK157 := n1_; have HB := n2_; clear n0_ n1_ n2_; (try clear hb); (try clear hb2); (try clear hk); (try clear hi); have hcz62_0 : w61.cell? ⟨gb157, 0, none⟩ = some (.int .i64 0) := (blk_cell BK157.out 0).trans rfl; have hcz62_1 : w61.cell? ⟨gb157, 1, none⟩ = some (.int .i64 0) := (blk_cell BK157.out 1).trans rfl; have hcz62_2 : w61.cell? ⟨gb157, 2, none⟩ = some (.int .i64 0) := (blk_cell BK157.out 2).trans rfl; have hfz62_0 := blk_frozen BK157.out 0; have hfz62_1 := blk_frozen BK157.out 1; have hfz62_2 := blk_frozen BK157.out 2))
  refine bodyPost_ret (results_list (rs := [.tmp 8, .cell 9 33, .tmp 10]) rfl (by simp) (.tmp (.cell gb157 33 #[.int .i64 0, .int .i64 0, .int .i64 0] (0, 0) _ rfl (by (with_reducible repeat (first | refine blk_drewN ?_ _ | refine blk_drew ?_ | refine blk_alloc ?_ _)); refine blk_put (cs := #[.int .i64 0, .int .i64 0, .int .i64 0]) ?_ 2 _ rfl; (with_reducible repeat (first | refine blk_drewN ?_ _ | refine blk_drew ?_ | refine blk_alloc ?_ _)); refine blk_put (cs := #[.int .i64 0, .int .i64 0, .int .i64 0]) ?_ 1 _ rfl; (with_reducible repeat (first | refine blk_drewN ?_ _ | refine blk_drew ?_ | refine blk_alloc ?_ _)); refine blk_put (cs := #[.int .i64 0, .int .i64 0, .int .i64 0]) ?_ 0 _ rfl; (with_reducible repeat (first | refine blk_drewN ?_ _ | refine blk_drew ?_ | refine blk_alloc ?_ _)); exact BK157.out) Try.underlying33 rfl (by kernel_rfl) (.tmp .nil)))) rfl ?_
  exact ⟨_, by first | rfl | (simp [errW_none, errW_some] <;> rfl) | (simp [*, errW_none, errW_some] <;> rfl), by first | exact Kd.S_nil _ _ _ _ _ | exact Kd.N_nil _ _ _ _ _ | exact Kd.V_nil _ _ _ _ _ | exact Kd.Q_nil _ _ _ _ _ | exact Kd.R_nil _ _ _ _ _, by repeat (first | (with_reducible first | exact HB.out | apply below_alloc | apply pw_below_drewN | apply below_drew1 | refine below_set ?_ GE157.out) | exact HB.out)⟩
   
 subst c6
 have H1 : ((Pa.quartermasterref18_At.f k l0 a1).bind fun t159 => (if t159 < 0 then (quartermasterref18_Ship.j0 k l0 a1 a2 a3 t159 true) else (if a2 < 0 then (quartermasterref18_Ship.j0 k l0 a1 a2 a3 t159 true) else (if 0 ≤ t159 then (if t159 < (l0.length : Int) then (quartermasterref18_Ship.j0 k l0 a1 a2 a3 t159 (decide (a2 ≥ (((rd_T25 l0 t159).f2).length : Int)))) else (none)) else (none))))) = some (r1, r2, r3, r4, r5) := by rw [if_pos rfl] at H; exact H
 clear H
 have H := H1
 clear H1
 replace H := Option.bind_eq_some_iff.mp H
 obtain ⟨t159, A70, H⟩ := H
 replace H : (if t159 < 0 then (quartermasterref18_Ship.j0 k l0 a1 a2 a3 t159 true) else (if a2 < 0 then (quartermasterref18_Ship.j0 k l0 a1 a2 a3 t159 true) else (if 0 ≤ t159 then (if t159 < (l0.length : Int) then (quartermasterref18_Ship.j0 k l0 a1 a2 a3 t159 (decide (a2 ≥ (((rd_T25 l0 t159).f2).length : Int)))) else (none)) else (none)))) = some (r1, r2, r3, r4, r5) := H
 have A7 := Aside0.mk A70
 clear A70
 have HC8 := Aside0.mk H
 clear H
 go_enter Try.func17, Try.ntmps17
 go_upto_region 5 with (first | ((with_reducible refine gate_dst (N := 9) rfl ?_); (try (refine gate_guard (by rfl) ?_; dsimp only)); refine box_event ?hg (N := 9) ?hd (cs := #[.int .i64 0, .int .i64 0, .int .i64 0]) (t := 33) ?hr ?_; (case hd => rfl); (case hg => rfl); (case hr => first | (go_simp; done) | (go_simp; rfl)); intro gb157 hg w9 hbox hb; have n0_ := Aside0.mk (Kd.V_below (Kd.V_elderB (by (with_reducible repeat (first | apply Kd.V_alloc | apply Kd.V_drewN | apply Kd.V_drew)); exact HO0.out) gb157 (Nat.le_of_eq hg.symm)) hb); have n1_ := Aside0.mk (below_step (by repeat (first | (with_reducible first | exact HB.out | apply below_alloc | apply pw_below_drewN | apply below_drew1) | exact HB.out)) hb); have n2_ := Aside0.mk (hbox); have n3_ := Aside0.mk ((by rw [hg]; exact (below_size (by repeat (first | (with_reducible first | exact HB.out | apply below_alloc | apply pw_below_drewN | apply below_drew1) | exact HB.out))) : w.heap.size ≤ gb157)); have n4_ := Aside0.mk ((by rw [hg]; exact (below_size (by repeat (first | (with_reducible first | exact HB.out | apply below_alloc | apply pw_below_drewN | apply below_drew1) | exact HB.out))) : w.heap.size ≤ gb157)); clear HO0; clear HB; have HO0 := n0_; have HB := n1_; have BK157 := n2_; have GW157 := n3_; have GE157 := n4_; clear n0_ n1_ n2_ n3_ n4_; clear hb hbox hg) | ((with_reducible refine gate_callee (f := 22) rfl ?_); refine goesL_ (some 19) rfl rfl Try.func22 (by kernel_rfl) rfl #[.slice A0 l0.length c0] rfl (by (try simp only [List.map_toArray, List.map_cons, List.map_nil]); first | done | rfl | (simp only [List.length_drop, List.length_take]; rfl)) ?_; (with_reducible refine (Pa.quartermasterref18_May.calls k _ _ l0 true _ ?side1 ?side2 A5.out).mono ?_); (case side1 => repeat (first | exact (Kd.V_reads' HO0.out).2.2 | (with_reducible refine Kd.C_alloc ?_ _) | (with_reducible refine Kd.C_drewN ?_ _) | (with_reducible refine Kd.C_drew ?_))); (case side2 => exact (Kd.V_reads' HO0.out).2.1); rintro e w10 ⟨rfl, hb⟩; refine ⟨_, rfl, ?_⟩; have n0_ := Aside0.mk (Kd.V_below (by (with_reducible repeat (first | apply Kd.V_alloc | apply Kd.V_drewN | apply Kd.V_drew)); exact HO0.out) hb); have n1_ := Aside0.mk (blk_below (g := gb157) (o := .cells #[.int .i64 0, .int .i64 0, .int .i64 0] 33 (0, 0)) (by (with_reducible repeat (first | refine blk_drewN ?_ _ | refine blk_drew ?_ | refine blk_alloc ?_ _)); exact BK157.out) hb); have n2_ := Aside0.mk (below_step (by repeat (first | (with_reducible first | exact HB.out | apply below_alloc | apply pw_below_drewN | apply below_drew1 | refine below_set ?_ GE157.out) | exact HB.out)) hb); clear HO0; clear BK157; clear HB; have HO0 := n0_; have BK157 := n1_; have HB := n2_; clear n0_ n1_ n2_; (try clear hb); (try clear hb2); (try clear hk); (try clear hi)) | ((with_reducible refine gate_callee (f := 24) rfl ?_); refine goesL_ (some 25) rfl rfl Try.func24 (by kernel_rfl) rfl #[.slice A0 l0.length c0, .int .i64 a1] rfl (by (try simp only [List.map_toArray, List.map_cons, List.map_nil]); first | done | rfl | (simp only [List.length_drop, List.length_take]; rfl)) ?_; (with_reducible refine (Pa.quartermasterref18_At.calls k _ _ l0 a1 t159 _ ?side1 ?side2 A7.out).mono ?_); (case side1 => repeat (first | exact (Kd.V_reads' HO0.out).2.2 | (with_reducible refine Kd.C_alloc ?_ _) | (with_reducible refine Kd.C_drewN ?_ _) | (with_reducible refine Kd.C_drew ?_))); (case side2 => exact (Kd.V_reads' HO0.out).2.1); rintro e w' ⟨rfl, ⟨nd, rfl⟩⟩; refine ⟨_, rfl, ?_⟩))
 (try simp only [Act.put, List.setIfInBounds_toArray, List.set_cons_zero, List.set_cons_succ])
 go_cut [41] (fun v41 wc => ∃ (kq : Nat) (x41_7 : Bool), v41 = .bool x41_7 ∧ Aside0 (quartermasterref18_Ship.j0 kq l0 a1 a2 a3 t159 x41_7 = some (r1, r2, r3, r4, r5)) ∧ Aside0 (kq ≤ k) ∧ Aside0 (Kd.V k25 25 wc w.heap.size (fun k_ => (P0_ k_ ∨ w.heap.size ≤ k_) ∧ k_ ≠ gb157) (.slice A0 l0.length c0) l0) ∧ Aside0 (wc.heap[gb157]? = some (.cells #[.int .i64 0, .int .i64 0, .int .i64 0] 33 (0, 0))) ∧ Aside0 (Below w.heap.size w wc))
 case first =>
  have H := HC8.out
  clear HC8
  by_cases c11 : t159 < 0
  ·rw [if_pos c11] at H
   have c11b0 : decide (t159 < 0) = true := decide_eq_true c11
   clear c11
   (first | rw [c11b0] | (simp only [i64_w, i32_w]; rw [c11b0]) | skip)
   have H' := Aside0.mk H
   clear H
   go_wp2
   go_meet
   case rel => exact ⟨_, (true), (by first | rfl | (simp; done) | (simp [*]; done)), H', ⟨by first | omega | exact Nat.le_refl _⟩, ⟨by (with_reducible repeat (first | apply Kd.V_alloc | apply Kd.V_drewN | apply Kd.V_drew)); exact HO0.out⟩, ⟨by (with_reducible repeat (first | refine blk_drewN ?_ _ | refine blk_drew ?_ | refine blk_alloc ?_ _)); exact BK157.out⟩, ⟨by repeat (first | (with_reducible first | exact HB.out | apply below_alloc | apply pw_below_drewN | apply below_drew1 | refine below_set ?_ GE157.out) | exact HB.out)⟩⟩
  rw [if_neg c11] at H
  have c11b0 : decide (t159 < 0) = false := decide_eq_false c11
  clear c11
  (first | rw [c11b0] | (simp only [i64_w, i32_w]; rw [c11b0]) | skip)
  by_cases c12 : a2 < 0
  ·rw [if_pos c12] at H
   have c12b0 : decide (a2 < 0) = true := decide_eq_true c12
   clear c12
   have H' := Aside0.mk H
   clear H
   go_wp2
   go_meet
   case rel => exact ⟨_, (true), (by first | rfl | (simp; done) | (simp [*]; done)), H', ⟨by first | omega | exact Nat.le_refl _⟩, ⟨by (with_reducible repeat (first | apply Kd.V_alloc | apply Kd.V_drewN | apply Kd.V_drew)); exact HO0.out⟩, ⟨by (with_reducible repeat (first | refine blk_drewN ?_ _ | refine blk_drew ?_ | refine blk_alloc ?_ _)); exact BK157.out⟩, ⟨by repeat (first | (with_reducible first | exact HB.out | apply below_alloc | apply pw_below_drewN | apply below_drew1 | refine below_set ?_ GE157.out) | exact HB.out)⟩⟩
  rw [if_neg c12] at H
  have c12b0 : decide (a2 < 0) = false := decide_eq_false c12
  clear c12
  by_cases c13 : 0 ≤ t159
  rotate_left
  ·rw [if_neg c13] at H
   exact absurd H (by simp)
  rw [if_pos c13] at H
  have c13b0 : decide (0 ≤ t159) = true := decide_eq_true c13
  clear c13
  by_cases c14 : t159 < (l0.length : Int)
  rotate_left
  ·rw [if_neg c14] at H
   exact absurd H (by simp)
  rw [if_pos c14] at H
  have c14b0 : decide (t159 < (l0.length : Int)) = true := decide_eq_true c14
  clear c14
  have H' := Aside0.mk H
  clear H
  have p160 : 0 ≤ (t159 : Int) := of_decide_eq_true (by first | (with_reducible assumption) | assumption)
  have q160 : t159 < (l0.length : Int) := of_decide_eq_true (by first | (with_reducible assumption) | assumption)
  obtain ⟨ad160, A160_2, c160_2, e160, hx160_0, hx160_1, hx160_2, hl160_2, hi160_2⟩ := at_T25 (Kd.V_reads' HO0.out).2.2 t159 p160 q160
  cases e160
  obtain ⟨ce160, hce160, hMe160, hcc160⟩ := Kd.V_get HO0.out z25 t159 p160 (by first | exact q160 | exact of_decide_eq_true (by first | (with_reducible assumption) | assumption) | (have e_ := (Kd.V_reads' HO0.out).1; omega))
  obtain ⟨ua160_2, uc160_2, rfl, ul160_2, ge160_2⟩ := k25_openF hMe160
  have hv160_2 := hcc160 2 _ rfl
  rw [add_field _ _ 2 (by omega)] at hv160_2
  replace hv160_2 := Option.some.inj (hv160_2.symm.trans hx160_2)
  injection hv160_2 with hva_ hvn_ hvc_
  rw [hva_] at ge160_2
  rw [hvc_] at ul160_2
  have HL160_2 := Aside0.mk (show Kd.V k33 33 _ w.heap.size _ _ ((rd_T25 l0 t159).f2) from Kd.V_mk ul160_2 ge160_2)
  clear hva_ hvn_ hvc_ ge160_2 ul160_2
  clear hcc160 hce160
  have HR160_2 := Aside0.mk hi160_2
  have HC160_2 := Aside0.mk hl160_2
  clear hi160_2 hl160_2
  replace p160 := eq_true p160
  replace q160 := eq_true q160
  go_wp2
  go_meet
  case rel => exact ⟨_, (decide (a2 ≥ (((rd_T25 l0 t159).f2).length : Int))), (by first | rfl | (simp; done) | (simp [*]; done)), H', ⟨by first | omega | exact Nat.le_refl _⟩, ⟨by (with_reducible repeat (first | apply Kd.V_alloc | apply Kd.V_drewN | apply Kd.V_drew)); exact HO0.out⟩, ⟨by (with_reducible repeat (first | refine blk_drewN ?_ _ | refine blk_drew ?_ | refine blk_alloc ?_ _)); exact BK157.out⟩, ⟨by repeat (first | (with_reducible first | exact HB.out | apply below_alloc | apply pw_below_drewN | apply below_drew1 | refine below_set ?_ GE157.out) | exact HB.out)⟩⟩
 case rest =>
  clear HC8
  try clear c1
  try clear p1
  try clear q1
  try clear hx1
  try clear c2
  try clear p2
  try clear c6
  try clear c11
  try clear c11b0
  try clear c12
  try clear c12b0
  try clear c13
  try clear c13b0
  try clear c14
  try clear c14b0
  try clear hx160_0
  try clear hx160_1
  try clear hx160_2
  try clear p160
  try clear q160
  obtain ⟨kq, x41_7, rfl, HA, HJ7, HO_0, BK157, HB⟩ := hcut
  cases kq with
  | zero => exact absurd HA.out (by simp [quartermasterref18_Ship.j0])
  | succ kj7 =>
   have H := HA.out
   clear HA
   simp only [quartermasterref18_Ship.j0] at H
   by_cases c15 : x41_7 = true
   ·subst c15
    have H1 : (some (([] : List (S25)), 0, 0, 0, 3)) = some (r1, r2, r3, r4, r5) := by rw [if_pos rfl] at H; exact H
    clear H
    have H := H1
    clear H1
    simp only [Option.some.injEq, Prod.mk.injEq] at H
    obtain ⟨rfl, rfl, rfl, rfl, rfl⟩ := H
    have hcz16_0 : wc.cell? ⟨gb157, 0, none⟩ = some (.int .i64 0) := (blk_cell BK157.out 0).trans rfl
    have hcz16_1 : wc.cell? ⟨gb157, 1, none⟩ = some (.int .i64 0) := (blk_cell BK157.out 1).trans rfl
    have hcz16_2 : wc.cell? ⟨gb157, 2, none⟩ = some (.int .i64 0) := (blk_cell BK157.out 2).trans rfl
    have hfz16_0 := blk_frozen BK157.out 0
    have hfz16_1 := blk_frozen BK157.out 1
    have hfz16_2 := blk_frozen BK157.out 2
    go_wp2
    refine bodyPost_ret (results_list (rs := [.tmp 8, .cell 9 33, .tmp 10]) rfl (by simp) (.tmp (.cell gb157 33 #[.int .i64 0, .int .i64 0, .int .i64 0] (0, 0) _ rfl (by (with_reducible repeat (first | refine blk_drewN ?_ _ | refine blk_drew ?_ | refine blk_alloc ?_ _)); refine blk_put (cs := #[.int .i64 0, .int .i64 0, .int .i64 0]) ?_ 2 _ rfl; (with_reducible repeat (first | refine blk_drewN ?_ _ | refine blk_drew ?_ | refine blk_alloc ?_ _)); refine blk_put (cs := #[.int .i64 0, .int .i64 0, .int .i64 0]) ?_ 1 _ rfl; (with_reducible repeat (first | refine blk_drewN ?_ _ | refine blk_drew ?_ | refine blk_alloc ?_ _)); refine blk_put (cs := #[.int .i64 0, .int .i64 0, .int .i64 0]) ?_ 0 _ rfl; (with_reducible repeat (first | refine blk_drewN ?_ _ | refine blk_drew ?_ | refine blk_alloc ?_ _)); exact BK157.out) Try.underlying33 rfl (by kernel_rfl) (.tmp .nil)))) rfl ?_
    exact ⟨_, by first | rfl | (simp [errW_none, errW_some] <;> rfl) | (simp [*, errW_none, errW_some] <;> rfl), by first | exact Kd.S_nil _ _ _ _ _ | exact Kd.N_nil _ _ _ _ _ | exact Kd.V_nil _ _ _ _ _ | exact Kd.Q_nil _ _ _ _ _ | exact Kd.R_nil _ _ _ _ _, by repeat (first | (with_reducible first | exact HB.out | apply below_alloc | apply pw_below_drewN | apply below_drew1 | refine below_set ?_ GE157.out) | exact HB.out)⟩
   replace c15 := Bool.eq_false_iff.mpr c15
   subst c15
   have H1 : (if a3 ≤ 0 then (some (([] : List (S25)), 0, 0, 0, 1)) else (if 0 ≤ t159 then (if t159 < (l0.length : Int) then (if 0 ≤ a2 then (if a2 < (((rd_T25 l0 t159).f2).length : Int) then (if ((rd_T33 ((rd_T25 l0 t159).f2) a2).f2) < a3 then (some (([] : List (S25)), 0, 0, 0, 31)) else (if ([] : List (S33)).length + ((rd_T25 l0 t159).f2).length < 5864062014805 then ((some (([] : List (S33)) ++ ((rd_T25 l0 t159).f2) : List (S33))).bind fun y164 => (if a2 < (y164.length : Int) then (quartermasterref18_Ship.l0 kj7 l0 a1 t159 (y164.set (a2 : Int).toNat (⟨(rd_T33 y164 a2).f0, (rd_T33 y164 a2).f1, wrap64 (((rd_T33 y164 a2).f2) - a3)⟩ : S33)) false 0 ((rd_T33 y164 a2).f0) ((rd_T33 y164 a2).f1) a3) else (none))) else (none))) else (none)) else (none)) else (none)) else (none))) = some (r1, r2, r3, r4, r5) := by rw [if_neg (show ¬ (false = true) by decide)] at H; exact H
   clear H
   have H := H1
   clear H1
   by_cases c17 : a3 ≤ 0
   ·rw [if_pos c17] at H
    have c17b0 : decide (a3 ≤ 0) = true := decide_eq_true c17
    clear c17
    simp only [Option.some.injEq, Prod.mk.injEq] at H
    obtain ⟨rfl, rfl, rfl, rfl, rfl⟩ := H
    have hcz18_0 : wc.cell? ⟨gb157, 0, none⟩ = some (.int .i64 0) := (blk_cell BK157.out 0).trans rfl
    have hcz18_1 : wc.cell? ⟨gb157, 1, none⟩ = some (.int .i64 0) := (blk_cell BK157.out 1).trans rfl
    have hcz18_2 : wc.cell? ⟨gb157, 2, none⟩ = some (.int .i64 0) := (blk_cell BK157.out 2).trans rfl
    have hfz18_0 := blk_frozen BK157.out 0
    have hfz18_1 := blk_frozen BK157.out 1
    have hfz18_2 := blk_frozen BK157.out 2
    go_wp2
    refine bodyPost_ret (results_list (rs := [.tmp 8, .cell 9 33, .tmp 10]) rfl (by simp) (.tmp (.cell gb157 33 #[.int .i64 0, .int .i64 0, .int .i64 0] (0, 0) _ rfl (by (with_reducible repeat (first | refine blk_drewN ?_ _ | refine blk_drew ?_ | refine blk_alloc ?_ _)); refine blk_put (cs := #[.int .i64 0, .int .i64 0, .int .i64 0]) ?_ 2 _ rfl; (with_reducible repeat (first | refine blk_drewN ?_ _ | refine blk_drew ?_ | refine blk_alloc ?_ _)); refine blk_put (cs := #[.int .i64 0, .int .i64 0, .int .i64 0]) ?_ 1 _ rfl; (with_reducible repeat (first | refine blk_drewN ?_ _ | refine blk_drew ?_ | refine blk_alloc ?_ _)); refine blk_put (cs := #[.int .i64 0, .int .i64 0, .int .i64 0]) ?_ 0 _ rfl; (with_reducible repeat (first | refine blk_drewN ?_ _ | refine blk_drew ?_ | refine blk_alloc ?_ _)); exact BK157.out) Try.underlying33 rfl (by kernel_rfl) (.tmp .nil)))) rfl ?_
    exact ⟨_, by first | rfl | (simp [errW_none, errW_some] <;> rfl) | (simp [*, errW_none, errW_some] <;> rfl), by first | exact Kd.S_nil _ _ _ _ _ | exact Kd.N_nil _ _ _ _ _ | exact Kd.V_nil _ _ _ _ _ | exact Kd.Q_nil _ _ _ _ _ | exact Kd.R_nil _ _ _ _ _, by repeat (first | (with_reducible first | exact HB.out | apply below_alloc | apply pw_below_drewN | apply below_drew1 | refine below_set ?_ GE157.out) | exact HB.out)⟩
   rw [if_neg c17] at H
   have c17b0 : decide (a3 ≤ 0) = false := decide_eq_false c17
   clear c17
   by_cases c19 : 0 ≤ t159
   rotate_left
   ·rw [if_neg c19] at H
    exact absurd H (by simp)
   rw [if_pos c19] at H
   have c19b0 : decide (0 ≤ t159) = true := decide_eq_true c19
   clear c19
   by_cases c20 : t159 < (l0.length : Int)
   rotate_left
   ·rw [if_neg c20] at H
    exact absurd H (by simp)
   rw [if_pos c20] at H
   have c20b0 : decide (t159 < (l0.length : Int)) = true := decide_eq_true c20
   clear c20
   by_cases c21 : 0 ≤ a2
   rotate_left
   ·rw [if_neg c21] at H
    exact absurd H (by simp)
   rw [if_pos c21] at H
   have c21b0 : decide (0 ≤ a2) = true := decide_eq_true c21
   clear c21
   by_cases c22 : a2 < (((rd_T25 l0 t159).f2).length : Int)
   rotate_left
   ·rw [if_neg c22] at H
    exact absurd H (by simp)
   rw [if_pos c22] at H
   have c22b0 : decide (a2 < (((rd_T25 l0 t159).f2).length : Int)) = true := decide_eq_true c22
   clear c22
   by_cases c23 : ((rd_T33 ((rd_T25 l0 t159).f2) a2).f2) < a3
   ·rw [if_pos c23] at H
    have c23b0 : decide (((rd_T33 ((rd_T25 l0 t159).f2) a2).f2) < a3) = true := decide_eq_true c23
    clear c23
    simp only [Option.some.injEq, Prod.mk.injEq] at H
    obtain ⟨rfl, rfl, rfl, rfl, rfl⟩ := H
    have p161 : 0 ≤ (t159 : Int) := of_decide_eq_true (by first | (with_reducible assumption) | assumption)
    have q161 : t159 < (l0.length : Int) := of_decide_eq_true (by first | (with_reducible assumption) | assumption)
    obtain ⟨ad161, A161_2, c161_2, e161, hx161_0, hx161_1, hx161_2, hl161_2, hi161_2⟩ := at_T25 (Kd.V_reads' HO_0.out).2.2 t159 p161 q161
    cases e161
    obtain ⟨ce161, hce161, hMe161, hcc161⟩ := Kd.V_get HO_0.out z25 t159 p161 (by first | exact q161 | exact of_decide_eq_true (by first | (with_reducible assumption) | assumption) | (have e_ := (Kd.V_reads' HO_0.out).1; omega))
    obtain ⟨ua161_2, uc161_2, rfl, ul161_2, ge161_2⟩ := k25_openF hMe161
    have hv161_2 := hcc161 2 _ rfl
    rw [add_field _ _ 2 (by omega)] at hv161_2
    replace hv161_2 := Option.some.inj (hv161_2.symm.trans hx161_2)
    injection hv161_2 with hva_ hvn_ hvc_
    rw [hva_] at ge161_2
    rw [hvc_] at ul161_2
    have HL161_2 := Aside0.mk (show Kd.V k33 33 _ w.heap.size _ _ ((rd_T25 l0 t159).f2) from Kd.V_mk ul161_2 ge161_2)
    clear hva_ hvn_ hvc_ ge161_2 ul161_2
    clear hcc161 hce161
    have HR161_2 := Aside0.mk hi161_2
    have HC161_2 := Aside0.mk hl161_2
    clear hi161_2 hl161_2
    replace p161 := eq_true p161
    replace q161 := eq_true q161
    have p162 : 0 ≤ (a2 : Int) := of_decide_eq_true (by first | (with_reducible assumption) | assumption)
    have q162 : a2 < (((rd_T25 l0 t159).f2).length : Int) := of_decide_eq_true (by first | (with_reducible assumption) | assumption)
    obtain ⟨ad162, e162, hx162_0, hx162_1, hx162_2⟩ := at_T33 (by repeat (first | (with_reducible exact HR161_2.out) | (with_reducible refine Kd.C_alloc ?_ _) | (with_reducible refine Kd.C_drewN ?_ _) | (with_reducible refine Kd.C_drew ?_) | exact HR161_2.out)) a2 p162 q162
    cases e162
    replace p162 := eq_true p162
    replace q162 := eq_true q162
    have hcz24_0 : wc.cell? ⟨gb157, 0, none⟩ = some (.int .i64 0) := (blk_cell BK157.out 0).trans rfl
    have hcz24_1 : wc.cell? ⟨gb157, 1, none⟩ = some (.int .i64 0) := (blk_cell BK157.out 1).trans rfl
    have hcz24_2 : wc.cell? ⟨gb157, 2, none⟩ = some (.int .i64 0) := (blk_cell BK157.out 2).trans rfl
    have hfz24_0 := blk_frozen BK157.out 0
    have hfz24_1 := blk_frozen BK157.out 1
    have hfz24_2 := blk_frozen BK157.out 2
    go_wp2
    refine bodyPost_ret (results_list (rs := [.tmp 8, .cell 9 33, .tmp 10]) rfl (by simp) (.tmp (.cell gb157 33 #[.int .i64 0, .int .i64 0, .int .i64 0] (0, 0) _ rfl (by (with_reducible repeat (first | refine blk_drewN ?_ _ | refine blk_drew ?_ | refine blk_alloc ?_ _)); refine blk_put (cs := #[.int .i64 0, .int .i64 0, .int .i64 0]) ?_ 2 _ rfl; (with_reducible repeat (first | refine blk_drewN ?_ _ | refine blk_drew ?_ | refine blk_alloc ?_ _)); refine blk_put (cs := #[.int .i64 0, .int .i64 0, .int .i64 0]) ?_ 1 _ rfl; (with_reducible repeat (first | refine blk_drewN ?_ _ | refine blk_drew ?_ | refine blk_alloc ?_ _)); refine blk_put (cs := #[.int .i64 0, .int .i64 0, .int .i64 0]) ?_ 0 _ rfl; (with_reducible repeat (first | refine blk_drewN ?_ _ | refine blk_drew ?_ | refine blk_alloc ?_ _)); exact BK157.out) Try.underlying33 rfl (by kernel_rfl) (.tmp .nil)))) rfl ?_
    exact ⟨_, by first | rfl | (simp [errW_none, errW_some] <;> rfl) | (simp [*, errW_none, errW_some] <;> rfl), by first | exact Kd.S_nil _ _ _ _ _ | exact Kd.N_nil _ _ _ _ _ | exact Kd.V_nil _ _ _ _ _ | exact Kd.Q_nil _ _ _ _ _ | exact Kd.R_nil _ _ _ _ _, by repeat (first | (with_reducible first | exact HB.out | apply below_alloc | apply pw_below_drewN | apply below_drew1 | refine below_set ?_ GE157.out) | exact HB.out)⟩
   rw [if_neg c23] at H
   have c23b0 : decide (((rd_T33 ((rd_T25 l0 t159).f2) a2).f2) < a3) = false := decide_eq_false c23
   clear c23
   by_cases c25 : ([] : List (S33)).length + ((rd_T25 l0 t159).f2).length < 5864062014805
   rotate_left
   ·rw [if_neg c25] at H
    exact absurd H (by simp)
   rw [if_pos c25] at H
   have LMc25 := Aside0.mk c25
   clear c25
   obtain ⟨y164, hy164⟩ : ∃ y_ : List (S33), y_ = (([] : List (S33)) ++ ((rd_T25 l0 t159).f2)) := ⟨_, rfl⟩
   replace H : (if a2 < (y164.length : Int) then (quartermasterref18_Ship.l0 kj7 l0 a1 t159 (y164.set (a2 : Int).toNat (⟨(rd_T33 y164 a2).f0, (rd_T33 y164 a2).f1, wrap64 (((rd_T33 y164 a2).f2) - a3)⟩ : S33)) false 0 ((rd_T33 y164 a2).f0) ((rd_T33 y164 a2).f1) a3) else (none)) = some (r1, r2, r3, r4, r5) := by first | (rw [hy164]; with_reducible exact H) | (have H2_ := (Option.bind_some _ _).symm.trans H; rw [hy164]; with_reducible exact H2_) | (have H2_ := (Option.bind_some _ _).symm.trans H; with_reducible exact H2_) | with_reducible exact H | (rw [hy164]; exact H) | exact H
   have Ny164 := Aside0.mk hy164
   clear hy164
   by_cases c26 : a2 < (y164.length : Int)
   rotate_left
   ·rw [if_neg c26] at H
    exact absurd H (by simp)
   rw [if_pos c26] at H
   have c26b0 : decide (a2 < (y164.length : Int)) = true := decide_eq_true c26
   clear c26
   obtain ⟨y171, hy171⟩ : ∃ y_ : List (S33), y_ = (y164.set (a2 : Int).toNat (⟨(rd_T33 y164 a2).f0, (rd_T33 y164 a2).f1, wrap64 (((rd_T33 y164 a2).f2) - a3)⟩ : S33)) := ⟨_, rfl⟩
   replace H : (quartermasterref18_Ship.l0 kj7 l0 a1 t159 y171 false 0 ((rd_T33 y164 a2).f0) ((rd_T33 y164 a2).f1) a3) = some (r1, r2, r3, r4, r5) := by first | (rw [hy171]; with_reducible exact H) | (have H2_ := (Option.bind_some _ _).symm.trans H; rw [hy171]; with_reducible exact H2_) | (have H2_ := (Option.bind_some _ _).symm.trans H; with_reducible exact H2_) | with_reducible exact H | (rw [hy171]; exact H) | exact H
   have Ny171 := Aside0.mk hy171
   clear hy171
   have H' := Aside0.mk H
   clear H
   have p161 : 0 ≤ (t159 : Int) := of_decide_eq_true (by first | (with_reducible assumption) | assumption)
   have q161 : t159 < (l0.length : Int) := of_decide_eq_true (by first | (with_reducible assumption) | assumption)
   obtain ⟨ad161, A161_2, c161_2, e161, hx161_0, hx161_1, hx161_2, hl161_2, hi161_2⟩ := at_T25 (Kd.V_reads' HO_0.out).2.2 t159 p161 q161
   cases e161
   obtain ⟨ce161, hce161, hMe161, hcc161⟩ := Kd.V_get HO_0.out z25 t159 p161 (by first | exact q161 | exact of_decide_eq_true (by first | (with_reducible assumption) | assumption) | (have e_ := (Kd.V_reads' HO_0.out).1; omega))
   obtain ⟨ua161_2, uc161_2, rfl, ul161_2, ge161_2⟩ := k25_openF hMe161
   have hv161_2 := hcc161 2 _ rfl
   rw [add_field _ _ 2 (by omega)] at hv161_2
   replace hv161_2 := Option.some.inj (hv161_2.symm.trans hx161_2)
   injection hv161_2 with hva_ hvn_ hvc_
   rw [hva_] at ge161_2
   rw [hvc_] at ul161_2
   have HL161_2 := Aside0.mk (show Kd.V k33 33 _ w.heap.size _ _ ((rd_T25 l0 t159).f2) from Kd.V_mk ul161_2 ge161_2)
   clear hva_ hvn_ hvc_ ge161_2 ul161_2
   clear hcc161 hce161
   have HR161_2 := Aside0.mk hi161_2
   have HC161_2 := Aside0.mk hl161_2
   clear hi161_2 hl161_2
   replace p161 := eq_true p161
   replace q161 := eq_true q161
   have p162 : 0 ≤ (a2 : Int) := of_decide_eq_true (by first | (with_reducible assumption) | assumption)
   have q162 : a2 < (((rd_T25 l0 t159).f2).length : Int) := of_decide_eq_true (by first | (with_reducible assumption) | assumption)
   obtain ⟨ad162, e162, hx162_0, hx162_1, hx162_2⟩ := at_T33 (by repeat (first | (with_reducible exact HR161_2.out) | (with_reducible refine Kd.C_alloc ?_ _) | (with_reducible refine Kd.C_drewN ?_ _) | (with_reducible refine Kd.C_drew ?_) | exact HR161_2.out)) a2 p162 q162
   cases e162
   replace p162 := eq_true p162
   replace q162 := eq_true q162
   have p163 : 0 ≤ (t159 : Int) := of_decide_eq_true (by first | (with_reducible assumption) | assumption)
   have q163 : t159 < (l0.length : Int) := of_decide_eq_true (by first | (with_reducible assumption) | assumption)
   obtain ⟨ad163, A163_2, c163_2, e163, hx163_0, hx163_1, hx163_2, hl163_2, hi163_2⟩ := at_T25 (Kd.V_reads' HO_0.out).2.2 t159 p163 q163
   obtain rfl : ad161 = ad163 := (by injection e163)
   obtain ⟨ce163, hce163, hMe163, hcc163⟩ := Kd.V_get HO_0.out z25 t159 p163 (by first | exact q163 | exact of_decide_eq_true (by first | (with_reducible assumption) | assumption) | (have e_ := (Kd.V_reads' HO_0.out).1; omega))
   obtain ⟨ua163_2, uc163_2, rfl, ul163_2, ge163_2⟩ := k25_openF hMe163
   have hv163_2 := hcc163 2 _ rfl
   rw [add_field _ _ 2 (by omega)] at hv163_2
   replace hv163_2 := Option.some.inj (hv163_2.symm.trans hx163_2)
   injection hv163_2 with hva_ hvn_ hvc_
   rw [hva_] at ge163_2
   rw [hvc_] at ul163_2
   have HL163_2 := Aside0.mk (show Kd.V k33 33 _ w.heap.size _ _ ((rd_T25 l0 t159).f2) from Kd.V_mk ul163_2 ge163_2)
   clear hva_ hvn_ hvc_ ge163_2 ul163_2
   clear hcc163 hce163
   have HR163_2 := Aside0.mk hi163_2
   have HC163_2 := Aside0.mk hl163_2
   clear hi163_2 hl163_2
   replace p163 := eq_true p163
   replace q163 := eq_true q163
   have ea_ := Option.some.inj (hx161_2.symm.trans hx163_2)
   injection ea_ with ea_ en_ ec_
   subst ea_
   subst ec_
   clear en_
   try go_wp2_with (first | ((with_reducible refine gate_builtin (b := .append) (xs := #[.const (.slice none 0 0), .tmp 62]) rfl ?_); (try (refine gate_guard (by rfl) ?_; dsimp only)); at_builtin; refine Kd.R_append_rows k33 (w0 := w) w.heap.size rfl (.const (.slice none 0 0)) (.tmp 62) 23 33 (.agg #[(.int .i64 0), (.int .i64 0), (.int .i64 0)]) 24 rfl Try.underlying23 info33 rfl (by decide) (by omega) (.slice none 0 0) ([] : List (S33)) ((rd_T25 l0 t159).f2) _ _ _ (fun k_ => (w.heap.size ≤ k_) ∧ k_ ≠ gb157) (fun _ => False) rfl rfl ?aO ?aR (fun _ _ h => h) (fun _ h => h.elim) ?aF ?aB ?aS ?aL ?_; (case aR => repeat (first | exact (by repeat (first | (with_reducible exact HR163_2.out) | (with_reducible refine Kd.C_alloc ?_ _) | (with_reducible refine Kd.C_drewN ?_ _) | (with_reducible refine Kd.C_drew ?_) | exact HR163_2.out)) | (with_reducible refine Kd.C_alloc ?_ _) | (with_reducible refine Kd.C_drewN ?_ _) | (with_reducible refine Kd.C_drew ?_))); (case aB => exact (by repeat (first | (with_reducible first | exact HB.out | apply below_alloc | apply pw_below_drewN | apply below_drew1 | refine below_set ?_ GE157.out) | exact HB.out))); (case aF => exact (fun k_ hk => ⟨(Nat.le_trans (below_size (by repeat (first | (with_reducible first | exact HB.out | apply below_alloc | apply pw_below_drewN | apply below_drew1 | refine below_set ?_ GE157.out) | exact HB.out))) hk), Kd.freshB (g := gb157) (o := .cells #[.int .i64 0, .int .i64 0, .int .i64 0] 33 (0, 0)) (by (with_reducible repeat (first | refine blk_drewN ?_ _ | refine blk_drew ?_ | refine blk_alloc ?_ _)); exact BK157.out) k_ hk⟩)); (case aO => exact ((Kd.R_nil _ _ _ _ (fun k_ => (w.heap.size ≤ k_) ∧ k_ ≠ gb157)))); (case aS => exact (below_size (by repeat (first | (with_reducible first | exact HB.out | apply below_alloc | apply pw_below_drewN | apply below_drew1 | refine below_set ?_ GE157.out) | exact HB.out)))); (case aL => have := LMc25.out; omega); intro v165 w28 ho hb hg hat; rw [← Ny164.out] at ho; have n0_ := Aside0.mk (Kd.V_afterv (Kd.V_apart_nil (by (with_reducible repeat (first | apply Kd.V_alloc | apply Kd.V_drewN | apply Kd.V_drew)); exact HO_0.out)) hg hat); have n1_ := Aside0.mk (blk_grown (g := gb157) (o := .cells #[.int .i64 0, .int .i64 0, .int .i64 0] 33 (0, 0)) (by (with_reducible repeat (first | refine blk_drewN ?_ _ | refine blk_drew ?_ | refine blk_alloc ?_ _)); exact BK157.out) hg (by simp [Value.ownBlock])); have n2_ := Aside0.mk (Kd.V_afterv (Kd.V_apart_nil (by (with_reducible repeat (first | apply Kd.V_alloc | apply Kd.V_drewN | apply Kd.V_drew)); exact HL161_2.out)) hg hat); have n3_ := Aside0.mk (Kd.V_afterv (Kd.V_apart_nil (by (with_reducible repeat (first | apply Kd.V_alloc | apply Kd.V_drewN | apply Kd.V_drew)); exact HL163_2.out)) hg hat); have n4_ := Aside0.mk (hb); have n5_ := Aside0.mk (ho); clear HO_0; clear BK157; clear HL161_2; clear HL163_2; clear HB; have HO_0 := n0_; have BK157 := n1_; have HL161_2 := n2_; have HL163_2 := n3_; have HB := n4_; have HO166 := n5_; clear n0_ n1_ n2_ n3_ n4_ n5_; clear ho hb hg hat))
   have n0_ := Aside0.mk (Kd.V_drew HO_0.out)
   have n1_ := Aside0.mk (Kd.V_drew HL161_2.out)
   have n2_ := Aside0.mk (Kd.V_drew HL163_2.out)
   have n3_ := Aside0.mk (Kd.R_drew HO166.out)
   have n4_ := Aside0.mk (blk_drew BK157.out)
   have n5_ := Aside0.mk (below_drew1 HB.out)
   clear HO_0
   clear HL161_2
   clear HL163_2
   clear HO166
   clear BK157
   clear HB
   have HO_0 := n0_
   have HL161_2 := n1_
   have HL163_2 := n2_
   have HO166 := n3_
   have BK157 := n4_
   have HB := n5_
   clear n0_ n1_ n2_ n3_ n4_ n5_
   obtain ⟨Ao30, co30, eo30⟩ := Kd.R_slice HO166.out
   (first | subst eo30 | (injection eo30 with f1_ f2_ f3_; have f4_ := f1_.symm; have f5_ := f3_.symm; clear f1_ f2_ f3_; subst f4_; subst f5_))
   have p167 : 0 ≤ (a2 : Int) := of_decide_eq_true (by first | (with_reducible assumption) | assumption)
   have q167 : a2 < (y164.length : Int) := of_decide_eq_true (by first | (with_reducible assumption) | assumption)
   obtain ⟨ad167, e167, hx167_0, hx167_1, hx167_2⟩ := at_T33 (Kd.R_reads' HO166.out).2.2 a2 p167 q167
   cases e167
   replace p167 := eq_true p167
   replace q167 := eq_true q167
   have p168 : 0 ≤ (a2 : Int) := of_decide_eq_true (by first | (with_reducible assumption) | assumption)
   have q168 : a2 < (y164.length : Int) := of_decide_eq_true (by first | (with_reducible assumption) | assumption)
   obtain ⟨ad168, e168, hx168_0, hx168_1, hx168_2⟩ := at_T33 (Kd.R_reads' HO166.out).2.2 a2 p168 q168
   obtain rfl : ad167 = ad168 := (by injection e168)
   replace p168 := eq_true p168
   replace q168 := eq_true q168
   refine start_ (n := 14) (S := fun w' => w'.cell? (ad167.add ((a2).toNat * 3)) = some (.int .i64 ((rd_T33 y164 a2).f0)) ∧ w'.cell? ⟨(ad167.add ((a2).toNat * 3)).block, (ad167.add ((a2).toNat * 3)).off + 1, none⟩ = some (.int .i64 ((rd_T33 y164 a2).f1)) ∧ w'.cell? ⟨(ad167.add ((a2).toNat * 3)).block, (ad167.add ((a2).toNat * 3)).off + 2, none⟩ = some (.int .i64 ((rd_T33 y164 a2).f2)) ∧ w'.cell? (ad167.add ((a2).toNat * 3)) = some (.int .i64 ((rd_T33 y164 a2).f0)) ∧ w'.cell? ⟨(ad167.add ((a2).toNat * 3)).block, (ad167.add ((a2).toNat * 3)).off + 1, none⟩ = some (.int .i64 ((rd_T33 y164 a2).f1)) ∧ w'.cell? ⟨(ad167.add ((a2).toNat * 3)).block, (ad167.add ((a2).toNat * 3)).off + 2, none⟩ = some (.int .i64 ((rd_T33 y164 a2).f2))) (ds := []) #[false, false, false, false, false, false, false, false, false, false, false, false, false, false] (by kernel_rfl) rfl rfl ⟨hx167_0, hx167_1, hx167_2, hx168_0, hx168_1, hx168_2⟩ (fun hHeld => ?_); refine with_tabW quartermasterref18_Ship.tab12 quartermasterref18_Ship.bits12 (fun HT_ HW_ => ?_)
   generalize w28.drew = w29 at HO_0 HL161_2 HL163_2 HO166 BK157 HB hx167_0 hx167_1 hx167_2 hx168_0 hx168_1 hx168_2 hHeld ⊢
   refine pure_ (i := 0) (N := some 64) (v := ?_) (a' := ?_) #[true, false, false, false, false, false, false, false, false, false, false, false, false, false] rfl rfl (any_of HT_.out (by kernel_rfl)) (fun _ _ _ h => h) (Or.inl ⟨by rfl, ?_⟩) ?_ ?_
   rotate_left
   ·intro w'
    go_simp
    with_reducible rfl
   rotate_left
   ·simp only [Act.put, List.setIfInBounds_toArray, List.set_cons_zero, List.set_cons_succ, i64_w, i32_w]
    rfl
   refine pure_ (i := 1) (N := some 65) (v := ?_) (a' := ?_) #[true, true, false, false, false, false, false, false, false, false, false, false, false, false] rfl rfl (any_of HT_.out (by kernel_rfl)) (fun _ _ _ h => h) (Or.inl ⟨by rfl, ?_⟩) ?_ ?_
   rotate_left
   ·intro w'
    go_simp
    with_reducible rfl
   rotate_left
   ·simp only [Act.put, List.setIfInBounds_toArray, List.set_cons_zero, List.set_cons_succ, i64_w, i32_w]
    rfl
   refine pure_ (i := 2) (N := some 66) (v := ?_) (a' := ?_) #[true, true, true, false, false, false, false, false, false, false, false, false, false, false] rfl rfl (any_of HT_.out (by kernel_rfl)) (fun _ _ _ h => h) (Or.inl ⟨by rfl, ?_⟩) ?_ ?_
   rotate_left
   ·intro w'
    go_simp
    with_reducible rfl
   rotate_left
   ·simp only [Act.put, List.setIfInBounds_toArray, List.set_cons_zero, List.set_cons_succ, i64_w, i32_w]
    rfl
   refine pure_ (i := 3) (N := some 67) (v := ?_) (a' := ?_) #[true, true, true, true, false, false, false, false, false, false, false, false, false, false] rfl rfl (any_of HT_.out (by kernel_rfl)) (fun _ _ _ h => h) (Or.inl ⟨by rfl, ?_⟩) ?_ ?_
   rotate_left
   ·intro w'
    go_simp
    with_reducible rfl
   rotate_left
   ·simp only [Act.put, List.setIfInBounds_toArray, List.set_cons_zero, List.set_cons_succ, i64_w, i32_w]
    rfl
   refine pure_ (i := 5) (N := some 69) (v := ?_) (a' := ?_) #[true, true, true, true, false, true, false, false, false, false, false, false, false, false] rfl rfl (any_of HT_.out (by kernel_rfl)) (fun _ _ _ h => h) (Or.inl ⟨by rfl, ?_⟩) ?_ ?_
   rotate_left
   ·intro w'
    go_simp
    with_reducible rfl
   rotate_left
   ·simp only [Act.put, List.setIfInBounds_toArray, List.set_cons_zero, List.set_cons_succ, i64_w, i32_w]
    rfl
   refine pure_ (i := 6) (N := some 70) (v := ?_) (a' := ?_) #[true, true, true, true, false, true, true, false, false, false, false, false, false, false] rfl rfl (any_of HT_.out (by kernel_rfl)) (fun _ _ _ h => h) (Or.inl ⟨by rfl, ?_⟩) ?_ ?_
   rotate_left
   ·intro w'
    go_simp
    with_reducible rfl
   rotate_left
   ·simp only [Act.put, List.setIfInBounds_toArray, List.set_cons_zero, List.set_cons_succ, i64_w, i32_w]
    rfl
   refine pure_ (i := 7) (N := some 71) (v := ?_) (a' := ?_) #[true, true, true, true, false, true, true, true, false, false, false, false, false, false] rfl rfl (any_of HT_.out (by kernel_rfl)) (fun _ _ _ h => h) (Or.inl ⟨by rfl, ?_⟩) ?_ ?_
   rotate_left
   ·intro w'
    go_simp
    with_reducible rfl
   rotate_left
   ·simp only [Act.put, List.setIfInBounds_toArray, List.set_cons_zero, List.set_cons_succ, i64_w, i32_w]
    rfl
   refine pure_ (i := 8) (N := some 72) (v := ?_) (a' := ?_) #[true, true, true, true, false, true, true, true, true, false, false, false, false, false] rfl rfl (any_of HT_.out (by kernel_rfl)) (fun _ _ _ h => h) (Or.inl ⟨by rfl, ?_⟩) ?_ ?_
   rotate_left
   ·intro w'
    go_simp
    with_reducible rfl
   rotate_left
   ·simp only [Act.put, List.setIfInBounds_toArray, List.set_cons_zero, List.set_cons_succ, i64_w, i32_w]
    rfl
   refine pure_ (i := 10) (N := some 74) (v := ?_) (a' := ?_) #[true, true, true, true, false, true, true, true, true, false, true, false, false, false] rfl rfl (any_of HT_.out (by kernel_rfl)) (fun _ _ _ h => h) (Or.inl ⟨by rfl, ?_⟩) ?_ ?_
   rotate_left
   ·intro w'
    go_simp
    with_reducible rfl
   rotate_left
   ·simp only [Act.put, List.setIfInBounds_toArray, List.set_cons_zero, List.set_cons_succ, i64_w, i32_w]
    rfl
   refine take_ (i := 4) (N := some 68) (v := ?_) (a' := ?_) #[true, true, true, true, true, true, true, true, true, false, true, false, false, false] rfl rfl (take_ofW HT_.out HW_.out (by kernel_rfl)) (fun _ _ _ h => h) (Or.inl ⟨by rfl, ?_⟩) hHeld ?_ ?_
   rotate_left
   ·rintro w' ⟨s0, s1, s2, s3, s4, s5⟩
    go_simp
    with_reducible rfl
   rotate_left
   ·simp only [Act.put, List.setIfInBounds_toArray, List.set_cons_zero, List.set_cons_succ, i64_w, i32_w]
    rfl
   refine take_ (i := 9) (N := some 73) (v := ?_) (a' := ?_) #[true, true, true, true, true, true, true, true, true, true, true, false, false, false] rfl rfl (take_ofW HT_.out HW_.out (by kernel_rfl)) (fun _ _ _ h => h) (Or.inl ⟨by rfl, ?_⟩) hHeld ?_ ?_
   rotate_left
   ·rintro w' ⟨s0, s1, s2, s3, s4, s5⟩
    go_simp
    with_reducible rfl
   rotate_left
   ·simp only [Act.put, List.setIfInBounds_toArray, List.set_cons_zero, List.set_cons_succ, i64_w, i32_w]
    rfl
   refine pure_ (i := 11) (N := some 75) (v := ?_) (a' := ?_) #[true, true, true, true, true, true, true, true, true, true, true, true, false, false] rfl rfl (any_of HT_.out (by kernel_rfl)) (fun _ _ _ h => h) (Or.inl ⟨by rfl, ?_⟩) ?_ ?_
   rotate_left
   ·intro w'
    go_simp
    with_reducible rfl
   rotate_left
   ·simp only [Act.put, List.setIfInBounds_toArray, List.set_cons_zero, List.set_cons_succ, i64_w, i32_w]
    rfl
   refine one_ (i := 12) (N := some 14) #[true, true, true, true, true, true, true, true, true, true, true, true, true, false] rfl rfl (one_of HT_.out (by kernel_rfl)) (by decide) (fun K hK => ?_)
   refine box_step ?hg (N := 14) ?hd (cs := #[.int .i64 0, .int .i64 0, .int .i64 0]) (t := 33) ?hr ?_; (case hd => rfl); (case hg => rfl); (case hr => first | (go_simp; done) | (go_simp; rfl))
   intro gb169 hg w31 hbox hb
   have HS0_ := (hb.cell (World.block_lt_of_cell? _ _ (hHeld.1))).trans (hHeld.1)
   have HS1_ := (hb.cell (World.block_lt_of_cell? _ _ (hHeld.2.1))).trans (hHeld.2.1)
   have HS2_ := (hb.cell (World.block_lt_of_cell? _ _ (hHeld.2.2.1))).trans (hHeld.2.2.1)
   have HS3_ := (hb.cell (World.block_lt_of_cell? _ _ (hHeld.2.2.2.1))).trans (hHeld.2.2.2.1)
   have HS4_ := (hb.cell (World.block_lt_of_cell? _ _ (hHeld.2.2.2.2.1))).trans (hHeld.2.2.2.2.1)
   have HS5_ := (hb.cell (World.block_lt_of_cell? _ _ (hHeld.2.2.2.2.2))).trans (hHeld.2.2.2.2.2)
   have n0_ := Aside0.mk (Kd.V_below (Kd.V_elderB (by (with_reducible repeat (first | apply Kd.V_alloc | apply Kd.V_drewN | apply Kd.V_drew)); exact HO_0.out) gb169 (Nat.le_of_eq hg.symm)) hb)
   have n1_ := Aside0.mk (Kd.V_below (Kd.V_elderB (by (with_reducible repeat (first | apply Kd.V_alloc | apply Kd.V_drewN | apply Kd.V_drew)); exact HL161_2.out) gb169 (Nat.le_of_eq hg.symm)) hb)
   have n2_ := Aside0.mk (Kd.V_below (Kd.V_elderB (by (with_reducible repeat (first | apply Kd.V_alloc | apply Kd.V_drewN | apply Kd.V_drew)); exact HL163_2.out) gb169 (Nat.le_of_eq hg.symm)) hb)
   have n3_ := Aside0.mk (Kd.R_below (Kd.R_elderB (by (with_reducible repeat (first | apply Kd.R_alloc | apply Kd.R_drewN | apply Kd.R_drew)); exact HO166.out) gb169 (Nat.le_of_eq hg.symm)) hb)
   have n4_ := Aside0.mk (blk_below (g := gb157) (o := .cells #[.int .i64 0, .int .i64 0, .int .i64 0] 33 (0, 0)) (by (with_reducible repeat (first | refine blk_drewN ?_ _ | refine blk_drew ?_ | refine blk_alloc ?_ _)); exact BK157.out) hb)
   have n5_ := Aside0.mk (below_step (by repeat (first | (with_reducible first | exact HB.out | apply below_alloc | apply pw_below_drewN | apply below_drew1 | refine below_set ?_ GE157.out) | exact HB.out)) hb)
   have n6_ := Aside0.mk (hbox)
   have n7_ := Aside0.mk ((by rw [hg]; exact (below_size (by repeat (first | (with_reducible first | exact HB.out | apply below_alloc | apply pw_below_drewN | apply below_drew1 | refine below_set ?_ GE157.out) | exact HB.out))) : w.heap.size ≤ gb169))
   have n8_ := Aside0.mk ((by rw [hg]; exact (below_size (by repeat (first | (with_reducible first | exact HB.out | apply below_alloc | apply pw_below_drewN | apply below_drew1 | refine below_set ?_ GE157.out) | exact HB.out))) : w.heap.size ≤ gb169))
   have n9_ := Aside0.mk ((by rw [hg]; exact Nat.ne_of_lt (blk_lt (g := gb157) (o := .cells #[.int .i64 0, .int .i64 0, .int .i64 0] 33 (0, 0)) (by (with_reducible repeat (first | refine blk_drewN ?_ _ | refine blk_drew ?_ | refine blk_alloc ?_ _)); exact BK157.out)) : gb157 ≠ gb169))
   have n10_ := Aside0.mk ((by rw [hg]; exact Nat.ne_of_gt (blk_lt (g := gb157) (o := .cells #[.int .i64 0, .int .i64 0, .int .i64 0] 33 (0, 0)) (by (with_reducible repeat (first | refine blk_drewN ?_ _ | refine blk_drew ?_ | refine blk_alloc ?_ _)); exact BK157.out)) : gb169 ≠ gb157))
   clear HO_0
   clear HL161_2
   clear HL163_2
   clear HO166
   clear BK157
   clear HB
   have HO_0 := n0_
   have HL161_2 := n1_
   have HL163_2 := n2_
   have HO166 := n3_
   have BK157 := n4_
   have HB := n5_
   have BK169 := n6_
   have GW169 := n7_
   have GE169 := n8_
   have NB157_169 := n9_
   have NB169_157 := n10_
   clear n0_ n1_ n2_ n3_ n4_ n5_ n6_ n7_ n8_ n9_ n10_
   clear hb hbox hg
   refine hK.out _ _ ⟨HS0_, HS1_, HS2_, HS3_, HS4_, HS5_⟩ (fun hHeld => ?_)
   clear hK K
   refine norm_ (a' := ?_) ?_ ?_
   rotate_left
   ·show Act.put _ (some 14) _ = _
    simp only [Act.put, List.setIfInBounds_toArray, List.set_cons_zero, List.set_cons_succ, i64_w, i32_w]
    rfl
   refine one_ (i := 13) (N := none) #[true, true, true, true, true, true, true, true, true, true, true, true, true, true] rfl rfl (one_of HT_.out (by kernel_rfl)) (by decide) (fun K hK => ?_)
   have hs32 : w31.cell? ⟨gb169, 0, none⟩ = some (.int .i64 0) := (blk_cell BK169.out 0).trans rfl
   have hfs32 := blk_frozen BK169.out 0
   have hns32_0 := NB157_169.out
   have hms32_0 := NB169_157.out
   have hs33 : w31.cell? ⟨gb169, 1, none⟩ = some (.int .i64 0) := (blk_cell BK169.out 1).trans rfl
   have hfs33 := blk_frozen BK169.out 1
   have hns33_0 := NB157_169.out
   have hms33_0 := NB169_157.out
   have hs34 : w31.cell? ⟨gb169, 2, none⟩ = some (.int .i64 0) := (blk_cell BK169.out 2).trans rfl
   have hfs34 := blk_frozen BK169.out 2
   have hns34_0 := NB157_169.out
   have hms34_0 := NB169_157.out
   refine skip_ (w1 := ?_) (by rfl) rfl ?_ ?_
   rotate_left
   ·go_simp
    rfl
   refine hK.out _ _ ⟨((cell_far (p := ⟨gb169, _, none⟩) (by first | exact Kd.own_blk (Kd.R_away HO166.out (fun _ hk => hk.2)) | (rw [add_block]; exact Kd.own_blk (Kd.R_away HO166.out (fun _ hk => hk.2))) | (show (Addr.add _ _).block ≠ _; rw [add_block]; exact Kd.own_blk (Kd.R_away HO166.out (fun _ hk => hk.2))) | (dsimp only; exact Kd.own_blk (Kd.R_away HO166.out (fun _ hk => hk.2)))) _).trans (((cell_far (p := ⟨gb169, _, none⟩) (by first | exact Kd.own_blk (Kd.R_away HO166.out (fun _ hk => hk.2)) | (rw [add_block]; exact Kd.own_blk (Kd.R_away HO166.out (fun _ hk => hk.2))) | (show (Addr.add _ _).block ≠ _; rw [add_block]; exact Kd.own_blk (Kd.R_away HO166.out (fun _ hk => hk.2))) | (dsimp only; exact Kd.own_blk (Kd.R_away HO166.out (fun _ hk => hk.2)))) _).trans (((cell_far (p := ⟨gb169, _, none⟩) (by first | exact Kd.own_blk (Kd.R_away HO166.out (fun _ hk => hk.2)) | (rw [add_block]; exact Kd.own_blk (Kd.R_away HO166.out (fun _ hk => hk.2))) | (show (Addr.add _ _).block ≠ _; rw [add_block]; exact Kd.own_blk (Kd.R_away HO166.out (fun _ hk => hk.2))) | (dsimp only; exact Kd.own_blk (Kd.R_away HO166.out (fun _ hk => hk.2)))) _).trans (hHeld.1)))))), ((cell_far (p := ⟨gb169, _, none⟩) (by first | exact Kd.own_blk (Kd.R_away HO166.out (fun _ hk => hk.2)) | (rw [add_block]; exact Kd.own_blk (Kd.R_away HO166.out (fun _ hk => hk.2))) | (show (Addr.add _ _).block ≠ _; rw [add_block]; exact Kd.own_blk (Kd.R_away HO166.out (fun _ hk => hk.2))) | (dsimp only; exact Kd.own_blk (Kd.R_away HO166.out (fun _ hk => hk.2)))) _).trans (((cell_far (p := ⟨gb169, _, none⟩) (by first | exact Kd.own_blk (Kd.R_away HO166.out (fun _ hk => hk.2)) | (rw [add_block]; exact Kd.own_blk (Kd.R_away HO166.out (fun _ hk => hk.2))) | (show (Addr.add _ _).block ≠ _; rw [add_block]; exact Kd.own_blk (Kd.R_away HO166.out (fun _ hk => hk.2))) | (dsimp only; exact Kd.own_blk (Kd.R_away HO166.out (fun _ hk => hk.2)))) _).trans (((cell_far (p := ⟨gb169, _, none⟩) (by first | exact Kd.own_blk (Kd.R_away HO166.out (fun _ hk => hk.2)) | (rw [add_block]; exact Kd.own_blk (Kd.R_away HO166.out (fun _ hk => hk.2))) | (show (Addr.add _ _).block ≠ _; rw [add_block]; exact Kd.own_blk (Kd.R_away HO166.out (fun _ hk => hk.2))) | (dsimp only; exact Kd.own_blk (Kd.R_away HO166.out (fun _ hk => hk.2)))) _).trans (hHeld.2.1)))))), ((cell_far (p := ⟨gb169, _, none⟩) (by first | exact Kd.own_blk (Kd.R_away HO166.out (fun _ hk => hk.2)) | (rw [add_block]; exact Kd.own_blk (Kd.R_away HO166.out (fun _ hk => hk.2))) | (show (Addr.add _ _).block ≠ _; rw [add_block]; exact Kd.own_blk (Kd.R_away HO166.out (fun _ hk => hk.2))) | (dsimp only; exact Kd.own_blk (Kd.R_away HO166.out (fun _ hk => hk.2)))) _).trans (((cell_far (p := ⟨gb169, _, none⟩) (by first | exact Kd.own_blk (Kd.R_away HO166.out (fun _ hk => hk.2)) | (rw [add_block]; exact Kd.own_blk (Kd.R_away HO166.out (fun _ hk => hk.2))) | (show (Addr.add _ _).block ≠ _; rw [add_block]; exact Kd.own_blk (Kd.R_away HO166.out (fun _ hk => hk.2))) | (dsimp only; exact Kd.own_blk (Kd.R_away HO166.out (fun _ hk => hk.2)))) _).trans (((cell_far (p := ⟨gb169, _, none⟩) (by first | exact Kd.own_blk (Kd.R_away HO166.out (fun _ hk => hk.2)) | (rw [add_block]; exact Kd.own_blk (Kd.R_away HO166.out (fun _ hk => hk.2))) | (show (Addr.add _ _).block ≠ _; rw [add_block]; exact Kd.own_blk (Kd.R_away HO166.out (fun _ hk => hk.2))) | (dsimp only; exact Kd.own_blk (Kd.R_away HO166.out (fun _ hk => hk.2)))) _).trans (hHeld.2.2.1)))))), ((cell_far (p := ⟨gb169, _, none⟩) (by first | exact Kd.own_blk (Kd.R_away HO166.out (fun _ hk => hk.2)) | (rw [add_block]; exact Kd.own_blk (Kd.R_away HO166.out (fun _ hk => hk.2))) | (show (Addr.add _ _).block ≠ _; rw [add_block]; exact Kd.own_blk (Kd.R_away HO166.out (fun _ hk => hk.2))) | (dsimp only; exact Kd.own_blk (Kd.R_away HO166.out (fun _ hk => hk.2)))) _).trans (((cell_far (p := ⟨gb169, _, none⟩) (by first | exact Kd.own_blk (Kd.R_away HO166.out (fun _ hk => hk.2)) | (rw [add_block]; exact Kd.own_blk (Kd.R_away HO166.out (fun _ hk => hk.2))) | (show (Addr.add _ _).block ≠ _; rw [add_block]; exact Kd.own_blk (Kd.R_away HO166.out (fun _ hk => hk.2))) | (dsimp only; exact Kd.own_blk (Kd.R_away HO166.out (fun _ hk => hk.2)))) _).trans (((cell_far (p := ⟨gb169, _, none⟩) (by first | exact Kd.own_blk (Kd.R_away HO166.out (fun _ hk => hk.2)) | (rw [add_block]; exact Kd.own_blk (Kd.R_away HO166.out (fun _ hk => hk.2))) | (show (Addr.add _ _).block ≠ _; rw [add_block]; exact Kd.own_blk (Kd.R_away HO166.out (fun _ hk => hk.2))) | (dsimp only; exact Kd.own_blk (Kd.R_away HO166.out (fun _ hk => hk.2)))) _).trans (hHeld.2.2.2.1)))))), ((cell_far (p := ⟨gb169, _, none⟩) (by first | exact Kd.own_blk (Kd.R_away HO166.out (fun _ hk => hk.2)) | (rw [add_block]; exact Kd.own_blk (Kd.R_away HO166.out (fun _ hk => hk.2))) | (show (Addr.add _ _).block ≠ _; rw [add_block]; exact Kd.own_blk (Kd.R_away HO166.out (fun _ hk => hk.2))) | (dsimp only; exact Kd.own_blk (Kd.R_away HO166.out (fun _ hk => hk.2)))) _).trans (((cell_far (p := ⟨gb169, _, none⟩) (by first | exact Kd.own_blk (Kd.R_away HO166.out (fun _ hk => hk.2)) | (rw [add_block]; exact Kd.own_blk (Kd.R_away HO166.out (fun _ hk => hk.2))) | (show (Addr.add _ _).block ≠ _; rw [add_block]; exact Kd.own_blk (Kd.R_away HO166.out (fun _ hk => hk.2))) | (dsimp only; exact Kd.own_blk (Kd.R_away HO166.out (fun _ hk => hk.2)))) _).trans (((cell_far (p := ⟨gb169, _, none⟩) (by first | exact Kd.own_blk (Kd.R_away HO166.out (fun _ hk => hk.2)) | (rw [add_block]; exact Kd.own_blk (Kd.R_away HO166.out (fun _ hk => hk.2))) | (show (Addr.add _ _).block ≠ _; rw [add_block]; exact Kd.own_blk (Kd.R_away HO166.out (fun _ hk => hk.2))) | (dsimp only; exact Kd.own_blk (Kd.R_away HO166.out (fun _ hk => hk.2)))) _).trans (hHeld.2.2.2.2.1)))))), ((cell_far (p := ⟨gb169, _, none⟩) (by first | exact Kd.own_blk (Kd.R_away HO166.out (fun _ hk => hk.2)) | (rw [add_block]; exact Kd.own_blk (Kd.R_away HO166.out (fun _ hk => hk.2))) | (show (Addr.add _ _).block ≠ _; rw [add_block]; exact Kd.own_blk (Kd.R_away HO166.out (fun _ hk => hk.2))) | (dsimp only; exact Kd.own_blk (Kd.R_away HO166.out (fun _ hk => hk.2)))) _).trans (((cell_far (p := ⟨gb169, _, none⟩) (by first | exact Kd.own_blk (Kd.R_away HO166.out (fun _ hk => hk.2)) | (rw [add_block]; exact Kd.own_blk (Kd.R_away HO166.out (fun _ hk => hk.2))) | (show (Addr.add _ _).block ≠ _; rw [add_block]; exact Kd.own_blk (Kd.R_away HO166.out (fun _ hk => hk.2))) | (dsimp only; exact Kd.own_blk (Kd.R_away HO166.out (fun _ hk => hk.2)))) _).trans (((cell_far (p := ⟨gb169, _, none⟩) (by first | exact Kd.own_blk (Kd.R_away HO166.out (fun _ hk => hk.2)) | (rw [add_block]; exact Kd.own_blk (Kd.R_away HO166.out (fun _ hk => hk.2))) | (show (Addr.add _ _).block ≠ _; rw [add_block]; exact Kd.own_blk (Kd.R_away HO166.out (fun _ hk => hk.2))) | (dsimp only; exact Kd.own_blk (Kd.R_away HO166.out (fun _ hk => hk.2)))) _).trans (hHeld.2.2.2.2.2))))))⟩ (fun hHeld => ?_)
   clear hK K
   refine done_ (done_of HT_.out (by kernel_rfl)) ?_
   have n0_ : Aside0 (Kd.V k25 25 (((w31.setCell ⟨gb169, 0, none⟩ (.int .i64 ((rd_T33 y164 a2).f0))).setCell ⟨gb169, 1, none⟩ (.int .i64 ((rd_T33 y164 a2).f1))).setCell ⟨gb169, 2, none⟩ (.int .i64 a3)) w.heap.size (fun k_ => (P0_ k_ ∨ w.heap.size ≤ k_) ∧ some k_ ≠ (.slice (some ad167) y164.length co30 : Value).ownBlock ∧ k_ ≠ gb157 ∧ k_ ≠ gb169) (.slice (some ad161) l0.length c0) l0) := ⟨by (with_reducible repeat (first | apply Kd.V_alloc | apply Kd.V_drewN | apply Kd.V_drew)); exact Kd.V_mono (Kd.V_far (p := ⟨gb169, 2, none⟩) (Kd.V_far (p := ⟨gb169, 1, none⟩) (Kd.V_far (p := ⟨gb169, 0, none⟩) (Kd.V_mono HO_0.out (fun k_ hk => (⟨hk, hk.2⟩ : _ ∧ k_ ≠ gb169))) (fun _ hk => hk.2) (.int .i64 ((rd_T33 y164 a2).f0))) (fun _ hk => hk.2) (.int .i64 ((rd_T33 y164 a2).f1))) (fun _ hk => hk.2) (.int .i64 a3)) (fun _ hk => ⟨hk.1.1.1.1, ⟨hk.1.1.2, ⟨hk.1.1.1.2, hk.1.2⟩⟩⟩)⟩
   have n1_ : Aside0 (Kd.V k33 33 (((w31.setCell ⟨gb169, 0, none⟩ (.int .i64 ((rd_T33 y164 a2).f0))).setCell ⟨gb169, 1, none⟩ (.int .i64 ((rd_T33 y164 a2).f1))).setCell ⟨gb169, 2, none⟩ (.int .i64 a3)) w.heap.size (fun k_ => (P0_ k_ ∨ w.heap.size ≤ k_) ∧ some k_ ≠ (.slice (some ad167) y164.length co30 : Value).ownBlock ∧ k_ ≠ gb157 ∧ k_ ≠ gb169) (.slice (some ad162) ((rd_T25 l0 t159).f2).length c161_2) ((rd_T25 l0 t159).f2)) := ⟨by (with_reducible repeat (first | apply Kd.V_alloc | apply Kd.V_drewN | apply Kd.V_drew)); exact Kd.V_mono (Kd.V_far (p := ⟨gb169, 2, none⟩) (Kd.V_far (p := ⟨gb169, 1, none⟩) (Kd.V_far (p := ⟨gb169, 0, none⟩) (Kd.V_mono HL161_2.out (fun k_ hk => (⟨hk, hk.2⟩ : _ ∧ k_ ≠ gb169))) (fun _ hk => hk.2) (.int .i64 ((rd_T33 y164 a2).f0))) (fun _ hk => hk.2) (.int .i64 ((rd_T33 y164 a2).f1))) (fun _ hk => hk.2) (.int .i64 a3)) (fun _ hk => ⟨hk.1.1.1.1, ⟨hk.1.1.2, ⟨hk.1.1.1.2, hk.1.2⟩⟩⟩)⟩
   have n2_ : Aside0 (Kd.V k33 33 (((w31.setCell ⟨gb169, 0, none⟩ (.int .i64 ((rd_T33 y164 a2).f0))).setCell ⟨gb169, 1, none⟩ (.int .i64 ((rd_T33 y164 a2).f1))).setCell ⟨gb169, 2, none⟩ (.int .i64 a3)) w.heap.size (fun k_ => (P0_ k_ ∨ w.heap.size ≤ k_) ∧ some k_ ≠ (.slice (some ad167) y164.length co30 : Value).ownBlock ∧ k_ ≠ gb157 ∧ k_ ≠ gb169) (.slice (some ad162) ((rd_T25 l0 t159).f2).length c161_2) ((rd_T25 l0 t159).f2)) := ⟨by (with_reducible repeat (first | apply Kd.V_alloc | apply Kd.V_drewN | apply Kd.V_drew)); exact Kd.V_mono (Kd.V_far (p := ⟨gb169, 2, none⟩) (Kd.V_far (p := ⟨gb169, 1, none⟩) (Kd.V_far (p := ⟨gb169, 0, none⟩) (Kd.V_mono HL163_2.out (fun k_ hk => (⟨hk, hk.2⟩ : _ ∧ k_ ≠ gb169))) (fun _ hk => hk.2) (.int .i64 ((rd_T33 y164 a2).f0))) (fun _ hk => hk.2) (.int .i64 ((rd_T33 y164 a2).f1))) (fun _ hk => hk.2) (.int .i64 a3)) (fun _ hk => ⟨hk.1.1.1.1, ⟨hk.1.1.2, ⟨hk.1.1.1.2, hk.1.2⟩⟩⟩)⟩
   have n3_ : Aside0 (Kd.R k33 33 (((w31.setCell ⟨gb169, 0, none⟩ (.int .i64 ((rd_T33 y164 a2).f0))).setCell ⟨gb169, 1, none⟩ (.int .i64 ((rd_T33 y164 a2).f1))).setCell ⟨gb169, 2, none⟩ (.int .i64 a3)) w.heap.size (fun k_ => (w.heap.size ≤ k_) ∧ k_ ≠ gb157 ∧ k_ ≠ gb169) (.slice (some ad167) y164.length co30) y164) := ⟨by (with_reducible repeat (first | apply Kd.R_alloc | apply Kd.R_drewN | apply Kd.R_drew)); exact Kd.R_mono (Kd.R_far (p := ⟨gb169, 2, none⟩) (Kd.R_far (p := ⟨gb169, 1, none⟩) (Kd.R_far (p := ⟨gb169, 0, none⟩) (Kd.R_mono HO166.out (fun k_ hk => (⟨hk, hk.2⟩ : _ ∧ k_ ≠ gb169))) (fun _ hk => hk.2) (.int .i64 ((rd_T33 y164 a2).f0))) (fun _ hk => hk.2) (.int .i64 ((rd_T33 y164 a2).f1))) (fun _ hk => hk.2) (.int .i64 a3)) (fun _ hk => ⟨hk.1.1.1, ⟨hk.1.1.2, hk.1.2⟩⟩)⟩
   have n4_ : Aside0 ((((w31.setCell ⟨gb169, 0, none⟩ (.int .i64 ((rd_T33 y164 a2).f0))).setCell ⟨gb169, 1, none⟩ (.int .i64 ((rd_T33 y164 a2).f1))).setCell ⟨gb169, 2, none⟩ (.int .i64 a3)).heap[gb157]? = some (.cells #[.int .i64 0, .int .i64 0, .int .i64 0] 33 (0, 0))) := ⟨by (with_reducible repeat (first | refine blk_drewN ?_ _ | refine blk_drew ?_ | refine blk_alloc ?_ _)); refine blk_far ?_ NB157_169.out _; (with_reducible repeat (first | refine blk_drewN ?_ _ | refine blk_drew ?_ | refine blk_alloc ?_ _)); refine blk_far ?_ NB157_169.out _; (with_reducible repeat (first | refine blk_drewN ?_ _ | refine blk_drew ?_ | refine blk_alloc ?_ _)); refine blk_far ?_ NB157_169.out _; (with_reducible repeat (first | refine blk_drewN ?_ _ | refine blk_drew ?_ | refine blk_alloc ?_ _)); exact BK157.out⟩
   have n5_ : Aside0 ((((w31.setCell ⟨gb169, 0, none⟩ (.int .i64 ((rd_T33 y164 a2).f0))).setCell ⟨gb169, 1, none⟩ (.int .i64 ((rd_T33 y164 a2).f1))).setCell ⟨gb169, 2, none⟩ (.int .i64 a3)).heap[gb169]? = some (.cells #[.int .i64 ((rd_T33 y164 a2).f0), .int .i64 ((rd_T33 y164 a2).f1), .int .i64 a3] 33 (0, 0))) := ⟨by (with_reducible repeat (first | refine blk_drewN ?_ _ | refine blk_drew ?_ | refine blk_alloc ?_ _)); refine blk_put (cs := #[.int .i64 ((rd_T33 y164 a2).f0), .int .i64 ((rd_T33 y164 a2).f1), .int .i64 0]) ?_ 2 _ rfl; (with_reducible repeat (first | refine blk_drewN ?_ _ | refine blk_drew ?_ | refine blk_alloc ?_ _)); refine blk_put (cs := #[.int .i64 ((rd_T33 y164 a2).f0), .int .i64 0, .int .i64 0]) ?_ 1 _ rfl; (with_reducible repeat (first | refine blk_drewN ?_ _ | refine blk_drew ?_ | refine blk_alloc ?_ _)); refine blk_put (cs := #[.int .i64 0, .int .i64 0, .int .i64 0]) ?_ 0 _ rfl; (with_reducible repeat (first | refine blk_drewN ?_ _ | refine blk_drew ?_ | refine blk_alloc ?_ _)); exact BK169.out⟩
   have n6_ : Aside0 (Below w.heap.size w (((w31.setCell ⟨gb169, 0, none⟩ (.int .i64 ((rd_T33 y164 a2).f0))).setCell ⟨gb169, 1, none⟩ (.int .i64 ((rd_T33 y164 a2).f1))).setCell ⟨gb169, 2, none⟩ (.int .i64 a3))) := ⟨by repeat (first | (with_reducible first | exact HB.out | apply below_alloc | apply pw_below_drewN | apply below_drew1 | refine below_set ?_ GE157.out | refine below_set ?_ GE169.out) | exact HB.out)⟩
   (try clear HO_0)
   (try clear HL161_2)
   (try clear HL163_2)
   (try clear HO166)
   (try clear BK157)
   (try clear BK169)
   (try clear HB)
   generalize (((w31.setCell ⟨gb169, 0, none⟩ (.int .i64 ((rd_T33 y164 a2).f0))).setCell ⟨gb169, 1, none⟩ (.int .i64 ((rd_T33 y164 a2).f1))).setCell ⟨gb169, 2, none⟩ (.int .i64 a3)) = w35 at n0_ n1_ n2_ n3_ n4_ n5_ n6_ ⊢
   have HO_0 := n0_
   have HL161_2 := n1_
   have HL163_2 := n2_
   have HO166 := n3_
   have BK157 := n4_
   have BK169 := n5_
   have HB := n6_
   clear n0_ n1_ n2_ n3_ n4_ n5_ n6_
   have p170 : 0 ≤ (a2 : Int) := of_decide_eq_true (by first | (with_reducible assumption) | assumption)
   have q170 : a2 < (y164.length : Int) := of_decide_eq_true (by first | (with_reducible assumption) | assumption)
   obtain ⟨ad170, e170, hx170_0, hx170_1, hx170_2⟩ := at_T33 (Kd.R_reads' HO166.out).2.2 a2 p170 q170
   obtain rfl : ad167 = ad170 := (by injection e170)
   replace p170 := eq_true p170
   replace q170 := eq_true q170
   have p27 : 0 ≤ (a2 : Int) := of_decide_eq_true (by first | (with_reducible assumption) | assumption)
   have q27 : (a2 : Int) < ((y164.length : Int) : Int) := of_decide_eq_true (by first | (with_reducible assumption) | assumption)
   obtain ⟨go27, co27, eo27, gb27, gl27, cl27, HG27⟩ := Kd.R_form HO166.out (by omega)
   (first | cases eo27 | (injection eo27 with ea_ en_ ec_; (first | subst ea_ | (injection ea_ with ea_; subst ea_)); subst ec_; clear en_))
   have GB27 := Aside0.mk gb27
   have GG27 := Aside0.mk HG27
   clear gb27 gl27 HG27
   (first | simp only [add_plain] at hx167_0 | skip)
   (first | simp only [add_plain] at hx167_1 | skip)
   (first | simp only [add_plain] at hx167_2 | skip)
   (first | simp only [add_plain] at hx168_0 | skip)
   (first | simp only [add_plain] at hx168_1 | skip)
   (first | simp only [add_plain] at hx168_2 | skip)
   (first | simp only [add_plain] at hx170_0 | skip)
   (first | simp only [add_plain] at hx170_1 | skip)
   (first | simp only [add_plain] at hx170_2 | skip)
   obtain ⟨ce27, hcl27, hM27, hcc27, hfr27⟩ := Kd.R_elem HO166.out z33 (a2 : Int) p27 q27
   obtain rfl := k33_openM hM27
   have hx27_0 : w35.cell? ⟨go27, (a2 : Int).toNat * 3, none⟩ = some (.int .i64 ((rd_T33 y164 a2).f0)) := hcc27 0 _ rfl
   have hx27_1 : w35.cell? ⟨go27, (a2 : Int).toNat * 3 + 1, none⟩ = some (.int .i64 ((rd_T33 y164 a2).f1)) := hcc27 1 _ rfl
   have hx27_2 : w35.cell? ⟨go27, (a2 : Int).toNat * 3 + 2, none⟩ = some (.int .i64 ((rd_T33 y164 a2).f2)) := hcc27 2 _ rfl
   have hf27_0 : w35.frozen? ⟨go27, (a2 : Int).toNat * 3, none⟩ = false := hfr27 0
   have hf27_1 : w35.frozen? ⟨go27, (a2 : Int).toNat * 3 + 1, none⟩ = false := hfr27 1
   have hf27_2 : w35.frozen? ⟨go27, (a2 : Int).toNat * 3 + 2, none⟩ = false := hfr27 2
   clear hcl27 hcc27 hfr27 hM27
   replace p27 := eq_true p27
   replace q27 := eq_true q27
   have HX36 := Aside0.mk (show Kd.R k33 33 w35 w.heap.size (fun k_ => (w.heap.size ≤ k_) ∧ k_ ≠ gb157 ∧ k_ ≠ gb169) (.slice (some ⟨go27, 0, none⟩) y164.length co30) y164 from (by (with_reducible repeat (first | apply Kd.R_alloc | apply Kd.R_drewN | apply Kd.R_drew)); exact HO166.out))
   obtain ⟨ce36, hcl36, hM36, hcc36, hfr36⟩ := Kd.R_elem HX36.out z33 (a2 : Int) (of_decide_eq_true (by first | (with_reducible assumption) | assumption)) (by have h_ : (a2 : Int) < ((y164.length : Int) : Int) := of_decide_eq_true (by first | (with_reducible assumption) | assumption); first | exact h_ | (have e_ := (Kd.R_reads' HO166.out).1; omega) | simpa using h_)
   obtain rfl := k33_openM hM36
   have HP36 := Kd.R_seg HX36.out (a2 : Int) (of_decide_eq_true (by first | (with_reducible assumption) | assumption)) (by have h_ : (a2 : Int) < ((y164.length : Int) : Int) := of_decide_eq_true (by first | (with_reducible assumption) | assumption); first | exact h_ | (have e_ := (Kd.R_reads' HO166.out).1; omega) | simpa using h_) (seg := [.int .i64 (wrap64 (((rd_T33 y164 a2).f2) - a3))]) (j := 2) hcl36 hcc36 (show 3 ≤ 3 from by decide) (x' := (⟨(rd_T33 y164 a2).f0, (rd_T33 y164 a2).f1, wrap64 (((rd_T33 y164 a2).f2) - a3)⟩ : S33)) (k33_mkM _ _ _ (⟨(rd_T33 y164 a2).f0, (rd_T33 y164 a2).f1, wrap64 (((rd_T33 y164 a2).f2) - a3)⟩ : S33) ) (fun _ hk => hk)
   have hx36_2 := hcc36 2 _ rfl
   (try simp only [show (k33).sz = 3 from rfl, Nat.mul_one, Nat.add_zero] at hx36_2)
   have hf36_2 := hfr36 2
   (try simp only [show (k33).sz = 3 from rfl, Nat.mul_one, Nat.add_zero] at hf36_2)
   clear hcl36 hcc36 hfr36 hM36
   try go_wp2_with (first | ((with_reducible refine gate_store (t := 3) (p := 86) rfl ?_); refine store_event (t := 3) (p := 86) (v := ?vo_w37) (w1 := (w35.setCell ⟨go27, (a2 : Int).toNat * 3 + 2, none⟩ (.int .i64 (wrap64 (((rd_T33 y164 a2).f2) - a3))))) ?hg ?ho ?hn ?hr ?_; (case ho => rfl); (case hg => rfl); (case hn => rfl); (case hr => first | (go_simp; done) | (go_simp; rfl)); intro w37 hw; have hg : w35.grownBy w37 (some go27) := (by rw [hw]; exact HP36.2); have hp_ : Kd.R k33 33 w37 w.heap.size (fun k_ => (w.heap.size ≤ k_) ∧ k_ ≠ gb157 ∧ k_ ≠ gb169) (.slice (some ⟨go27, 0, none⟩) y164.length co30) y171 := (by rw [hw, Ny171.out]; exact HP36.1); clear HP36; have n0_ := Aside0.mk (Kd.V_afterv (v := (.slice (some ⟨go27, 0, none⟩) y164.length co30)) (v1 := (.slice (some ⟨go27, 0, none⟩) y164.length co30)) (ok := (fun k_ => (P0_ k_ ∨ w.heap.size ≤ k_) ∧ k_ ≠ gb157 ∧ k_ ≠ gb169)) (by (with_reducible repeat (first | apply Kd.V_alloc | apply Kd.V_drewN | apply Kd.V_drew)); exact Kd.V_mono HO_0.out (fun _ hk => ⟨⟨hk.1, ⟨hk.2.2.1, hk.2.2.2⟩⟩, hk.2.1⟩)) hg (.inl rfl)); have n1_ := Aside0.mk (blk_grown (g := gb157) (o := .cells #[.int .i64 0, .int .i64 0, .int .i64 0] 33 (0, 0)) (by (with_reducible repeat (first | refine blk_drewN ?_ _ | refine blk_drew ?_ | refine blk_alloc ?_ _)); exact BK157.out) hg (Kd.R_away HO166.out (fun _ hk => hk.2.1))); have n2_ := Aside0.mk (Kd.V_afterv (v := (.slice (some ⟨go27, 0, none⟩) y164.length co30)) (v1 := (.slice (some ⟨go27, 0, none⟩) y164.length co30)) (ok := (fun k_ => (P0_ k_ ∨ w.heap.size ≤ k_) ∧ k_ ≠ gb157 ∧ k_ ≠ gb169)) (by (with_reducible repeat (first | apply Kd.V_alloc | apply Kd.V_drewN | apply Kd.V_drew)); exact Kd.V_mono HL161_2.out (fun _ hk => ⟨⟨hk.1, ⟨hk.2.2.1, hk.2.2.2⟩⟩, hk.2.1⟩)) hg (.inl rfl)); have n3_ := Aside0.mk (Kd.V_afterv (v := (.slice (some ⟨go27, 0, none⟩) y164.length co30)) (v1 := (.slice (some ⟨go27, 0, none⟩) y164.length co30)) (ok := (fun k_ => (P0_ k_ ∨ w.heap.size ≤ k_) ∧ k_ ≠ gb157 ∧ k_ ≠ gb169)) (by (with_reducible repeat (first | apply Kd.V_alloc | apply Kd.V_drewN | apply Kd.V_drew)); exact Kd.V_mono HL163_2.out (fun _ hk => ⟨⟨hk.1, ⟨hk.2.2.1, hk.2.2.2⟩⟩, hk.2.1⟩)) hg (.inl rfl)); have n4_ := Aside0.mk (hp_); have n5_ := Aside0.mk (blk_grown (g := gb169) (o := .cells #[.int .i64 ((rd_T33 y164 a2).f0), .int .i64 ((rd_T33 y164 a2).f1), .int .i64 a3] 33 (0, 0)) (by (with_reducible repeat (first | refine blk_drewN ?_ _ | refine blk_drew ?_ | refine blk_alloc ?_ _)); exact BK169.out) hg (Kd.R_away HO166.out (fun _ hk => hk.2.2))); have n6_ := Aside0.mk ((by rw [hw]; exact below_set (HB.out) GB27.out : Below w.heap.size w w37)); clear HO_0; clear BK157; clear HL161_2; clear HL163_2; clear HO166; clear BK169; clear HB; have HO_0 := n0_; have BK157 := n1_; have HL161_2 := n2_; have HL163_2 := n3_; have HO166 := n4_; have BK169 := n5_; have HB := n6_; clear n0_ n1_ n2_ n3_ n4_ n5_ n6_; clear hg hw hp_))
   go_loopg [15, 16] kj7 (fun kq v15 v16 w' => ∃ (x15_2 : Bool) (x16_2 : Int), v15 = .bool x15_2 ∧ v16 = .int .i64 x16_2 ∧ Aside0 (quartermasterref18_Ship.l0 kq l0 a1 t159 y171 x15_2 x16_2 ((rd_T33 y164 a2).f0) ((rd_T33 y164 a2).f1) a3 = some (r1, r2, r3, r4, r5)) ∧ Aside0 (kq ≤ kj7) ∧ Aside0 (Kd.V k25 25 w' w.heap.size (fun k_ => (P0_ k_ ∨ w.heap.size ≤ k_) ∧ some k_ ≠ ((.slice (some ⟨go27, 0, none⟩) y164.length co30) : Value).ownBlock ∧ k_ ≠ gb157 ∧ k_ ≠ gb169) (.slice (some ad161) l0.length c0) l0) ∧ Aside0 (Kd.R k33 33 w' w.heap.size (fun k_ => (w.heap.size ≤ k_) ∧ k_ ≠ gb157 ∧ k_ ≠ gb169) (.slice (some ⟨go27, 0, none⟩) y164.length co30) y171) ∧ Aside0 (w'.heap[gb157]? = some (.cells #[.int .i64 0, .int .i64 0, .int .i64 0] 33 (0, 0))) ∧ Aside0 (w'.heap[gb169]? = some (.cells #[.int .i64 ((rd_T33 y164 a2).f0), .int .i64 ((rd_T33 y164 a2).f1), .int .i64 a3] 33 (0, 0))) ∧ Aside0 (Below w.heap.size w w'))
   case atStart => exact ⟨(false), (0), (by first | rfl | (simp; done) | (simp [*]; done)), (by first | rfl | (simp; done) | (simp [*]; done)), H', ⟨Nat.le_refl _⟩, ⟨by (with_reducible repeat (first | apply Kd.V_alloc | apply Kd.V_drewN | apply Kd.V_drew)); exact Kd.V_mono HO_0.out (fun _ hk => ⟨hk.1.1, ⟨hk.2, ⟨hk.1.2.1, hk.1.2.2⟩⟩⟩)⟩, ⟨by (with_reducible repeat (first | apply Kd.R_alloc | apply Kd.R_drewN | apply Kd.R_drew)); exact HO166.out⟩, ⟨by (with_reducible repeat (first | refine blk_drewN ?_ _ | refine blk_drew ?_ | refine blk_alloc ?_ _)); exact BK157.out⟩, ⟨by (with_reducible repeat (first | refine blk_drewN ?_ _ | refine blk_drew ?_ | refine blk_alloc ?_ _)); exact BK169.out⟩, ⟨by repeat (first | (with_reducible first | exact HB.out | apply below_alloc | apply pw_below_drewN | apply below_drew1 | refine below_set ?_ GE157.out | refine below_set ?_ GE169.out) | exact HB.out)⟩⟩
   case round =>
    clear H'
    try clear c1
    try clear p1
    try clear q1
    try clear hx1
    try clear c2
    try clear p2
    try clear q2
    try clear hx2
    try clear c3
    try clear hx3
    try clear c6
    try clear p6
    try clear c11
    try clear c11b0
    try clear c12
    try clear c12b0
    try clear c13
    try clear c13b0
    try clear c14
    try clear c14b0
    try clear c15
    try clear c16
    try clear p16
    try clear q16
    try clear hx16
    try clear c17
    try clear c17b0
    try clear p17
    try clear q17
    try clear hx17
    try clear c19
    try clear c19b0
    try clear c20
    try clear c20b0
    try clear c21
    try clear c21b0
    try clear c22
    try clear c22b0
    try clear c23
    try clear c23b0
    try clear c24
    try clear c25
    try clear c26
    try clear c26b0
    try clear c27
    try clear p27
    try clear q27
    try clear hx27
    try clear hf27
    try clear c36
    try clear hx36
    try clear hf36
    try clear hcz16_0
    try clear hcz16_1
    try clear hcz16_2
    try clear hcz18_0
    try clear hcz18_1
    try clear hcz18_2
    try clear hcz24_0
    try clear hcz24_1
    try clear hcz24_2
    try clear hfz16_0
    try clear hfz16_1
    try clear hfz16_2
    try clear hfz18_0
    try clear hfz18_1
    try clear hfz18_2
    try clear hfz24_0
    try clear hfz24_1
    try clear hfz24_2
    try clear hx160_0
    try clear hx160_1
    try clear hx160_2
    try clear hx161_0
    try clear hx161_1
    try clear hx161_2
    try clear hx162_0
    try clear hx162_1
    try clear hx162_2
    try clear hx163_0
    try clear hx163_1
    try clear hx163_2
    try clear hx167_0
    try clear hx167_1
    try clear hx167_2
    try clear hx168_0
    try clear hx168_1
    try clear hx168_2
    try clear hx170_0
    try clear hx170_1
    try clear hx170_2
    try clear hx27_0
    try clear hx27_1
    try clear hx27_2
    try clear hx36_2
    try clear p1
    try clear p160
    try clear p161
    try clear p162
    try clear p163
    try clear p167
    try clear p168
    try clear p170
    try clear p2
    try clear p27
    try clear q1
    try clear q160
    try clear q161
    try clear q162
    try clear q163
    try clear q167
    try clear q168
    try clear q170
    try clear q27
    obtain ⟨x15_2, x16_2, rfl, rfl, HA, HK2, HO_0, HO_13, BK157, BK169, HB⟩ := hrel
    have hl13_2 := (Kd.R_reads' HO_13.out).1
    rw [hl13_2] at HO_13
    (try simp only [hl13_2])
    (try simp only [hl13_2] at BK157)
    (try simp only [hl13_2] at BK169)
    (try simp only [hl13_2] at HO_0)
    cases gk with
    | zero => exact absurd HA.out (by simp [quartermasterref18_Ship.l0])
    | succ k2 =>
     have H := HA.out
     clear HA
     simp only [quartermasterref18_Ship.l0] at H
     by_cases c38 : x16_2 < (y171.length : Int)
     ·rw [if_pos c38] at H
      have c38b0 : decide (x16_2 < (y171.length : Int)) = true := decide_eq_true c38
      clear c38
      by_cases c39 : x15_2 = true
      ·subst c39
       have H1 : (quartermasterref18_Ship.l0 k2 l0 a1 t159 y171 true (wrap64 (x16_2 + 1)) ((rd_T33 y164 a2).f0) ((rd_T33 y164 a2).f1) a3) = some (r1, r2, r3, r4, r5) := by rw [if_pos rfl] at H; exact H
       clear H
       have H := H1
       clear H1
       have H' := Aside0.mk H
       clear H
       go_wp2
       (try simp only [← hl13_2])
       go_roundg k2
       case measure => have := HJ7.out; have := HK2.out; omega
       case rel => exact ⟨(true), (wrap64 (x16_2 + 1)), (by first | rfl | (simp; done) | (simp [*]; done)), (by first | rfl | (simp; done) | (simp [*]; done)), H', ⟨by have := HJ7.out; have := HK2.out; omega⟩, ⟨by (try simp only [hl13_2]); (with_reducible repeat (first | apply Kd.V_alloc | apply Kd.V_drewN | apply Kd.V_drew)); exact HO_0.out⟩, ⟨by (try simp only [hl13_2]); (with_reducible repeat (first | apply Kd.R_alloc | apply Kd.R_drewN | apply Kd.R_drew)); exact HO_13.out⟩, ⟨by (try simp only [hl13_2]); (with_reducible repeat (first | refine blk_drewN ?_ _ | refine blk_drew ?_ | refine blk_alloc ?_ _)); exact BK157.out⟩, ⟨by (try simp only [hl13_2]); (with_reducible repeat (first | refine blk_drewN ?_ _ | refine blk_drew ?_ | refine blk_alloc ?_ _)); exact BK169.out⟩, ⟨by repeat (first | (with_reducible first | exact HB.out | apply below_alloc | apply pw_below_drewN | apply below_drew1 | refine below_set ?_ GE157.out | refine below_set ?_ GE169.out) | exact HB.out)⟩⟩
      replace c39 := Bool.eq_false_iff.mpr c39
      subst c39
      have H1 : (if 0 ≤ x16_2 then (quartermasterref18_Ship.l0 k2 l0 a1 t159 y171 (decide (((rd_T33 y171 x16_2).f2) > 0)) (wrap64 (x16_2 + 1)) ((rd_T33 y164 a2).f0) ((rd_T33 y164 a2).f1) a3) else (none)) = some (r1, r2, r3, r4, r5) := by rw [if_neg (show ¬ (false = true) by decide)] at H; exact H
      clear H
      have H := H1
      clear H1
      by_cases c40 : 0 ≤ x16_2
      rotate_left
      ·rw [if_neg c40] at H
       exact absurd H (by simp)
      rw [if_pos c40] at H
      have c40b0 : decide (0 ≤ x16_2) = true := decide_eq_true c40
      clear c40
      have H' := Aside0.mk H
      clear H
      have p172 : 0 ≤ (x16_2 : Int) := of_decide_eq_true (by first | (with_reducible assumption) | assumption)
      have q172 : x16_2 < (y171.length : Int) := of_decide_eq_true (by first | (with_reducible assumption) | assumption)
      obtain ⟨ad172, e172, hx172_0, hx172_1, hx172_2⟩ := at_T33 (Kd.R_reads' HO_13.out).2.2 x16_2 p172 q172
      obtain rfl : (⟨go27, 0, none⟩ : Addr) = ad172 := (by injection e172)
      (first | simp only [add_plain] at hx172_0 | simp only [add_at] at hx172_0 | simp only [Addr.add, Nat.zero_add] at hx172_0 | skip)
      (first | simp only [add_plain] at hx172_1 | simp only [add_at] at hx172_1 | simp only [Addr.add, Nat.zero_add] at hx172_1 | skip)
      (first | simp only [add_plain] at hx172_2 | simp only [add_at] at hx172_2 | simp only [Addr.add, Nat.zero_add] at hx172_2 | skip)
      replace p172 := eq_true p172
      replace q172 := eq_true q172
      go_wp2
      (try simp only [← hl13_2])
      go_roundg k2
      case measure => have := HJ7.out; have := HK2.out; omega
      case rel => exact ⟨(decide (((rd_T33 y171 x16_2).f2) > 0)), (wrap64 (x16_2 + 1)), (by first | rfl | (simp; done) | (simp [*]; done)), (by first | rfl | (simp; done) | (simp [*]; done)), H', ⟨by have := HJ7.out; have := HK2.out; omega⟩, ⟨by (try simp only [hl13_2]); (with_reducible repeat (first | apply Kd.V_alloc | apply Kd.V_drewN | apply Kd.V_drew)); exact HO_0.out⟩, ⟨by (try simp only [hl13_2]); (with_reducible repeat (first | apply Kd.R_alloc | apply Kd.R_drewN | apply Kd.R_drew)); exact HO_13.out⟩, ⟨by (try simp only [hl13_2]); (with_reducible repeat (first | refine blk_drewN ?_ _ | refine blk_drew ?_ | refine blk_alloc ?_ _)); exact BK157.out⟩, ⟨by (try simp only [hl13_2]); (with_reducible repeat (first | refine blk_drewN ?_ _ | refine blk_drew ?_ | refine blk_alloc ?_ _)); exact BK169.out⟩, ⟨by repeat (first | (with_reducible first | exact HB.out | apply below_alloc | apply pw_below_drewN | apply below_drew1 | refine below_set ?_ GE157.out | refine below_set ?_ GE169.out) | exact HB.out)⟩⟩
     rw [if_neg c38] at H
     have c38b0 : decide (x16_2 < (y171.length : Int)) = false := decide_eq_false c38
     clear c38
     by_cases c41 : x15_2 = true
     rotate_left
     ·replace c41 := Bool.eq_false_iff.mpr c41
      subst c41
      have H1 : ((quartermasterref18_without.f l0 t159).bind fun t178 => (some (t178, ((rd_T33 y164 a2).f0), ((rd_T33 y164 a2).f1), a3, 0))) = some (r1, r2, r3, r4, r5) := by rw [if_neg (show ¬ (false = true) by decide)] at H; exact H
      clear H
      have H := H1
      clear H1
      replace H := Option.bind_eq_some_iff.mp H
      obtain ⟨t178, A540, H⟩ := H
      replace H : (some (t178, ((rd_T33 y164 a2).f0), ((rd_T33 y164 a2).f1), a3, 0)) = some (r1, r2, r3, r4, r5) := H
      have A54 := Aside0.mk A540
      clear A540
      simp only [Option.some.injEq, Prod.mk.injEq] at H
      obtain ⟨rfl, rfl, rfl, rfl, rfl⟩ := H
      try go_wp2
      have n0_ := Aside0.mk (Kd.V_drew HO_0.out)
      have n1_ := Aside0.mk (Kd.R_drew HO_13.out)
      have n2_ := Aside0.mk (blk_drew BK157.out)
      have n3_ := Aside0.mk (blk_drew BK169.out)
      have n4_ := Aside0.mk (below_drew1 HB.out)
      clear HO_0
      clear HO_13
      clear BK157
      clear BK169
      clear HB
      have HO_0 := n0_
      have HO_13 := n1_
      have BK157 := n2_
      have BK169 := n3_
      have HB := n4_
      clear n0_ n1_ n2_ n3_ n4_
      refine start_ (n := 7) (S := fun w' => w'.cell? ⟨gb169, 0, none⟩ = some (.int .i64 ((rd_T33 y164 a2).f0)) ∧ w'.cell? ⟨gb169, 1, none⟩ = some (.int .i64 ((rd_T33 y164 a2).f1)) ∧ w'.cell? ⟨gb169, 2, none⟩ = some (.int .i64 a3)) (ds := []) #[false, false, false, false, false, false, false] (by kernel_rfl) rfl rfl ⟨(blk_cell BK169.out 0).trans rfl, (blk_cell BK169.out 1).trans rfl, (blk_cell BK169.out 2).trans rfl⟩ (fun hHeld => ?_)
      generalize wr.drew = w55 at HO_0 HO_13 BK157 BK169 HB hHeld ⊢
      refine pure_ (i := 0) (N := some 104) (v := ?_) (a' := ?_) #[true, false, false, false, false, false, false] rfl rfl (by kernel_rfl) (fun _ _ _ h => h) (Or.inl ⟨by rfl, ?_⟩) ?_ ?_
      rotate_left
      ·intro w'
       go_simp
       with_reducible rfl
      rotate_left
      ·simp only [Act.put, List.setIfInBounds_toArray, List.set_cons_zero, List.set_cons_succ, i64_w, i32_w]
       rfl
      refine pure_ (i := 1) (N := some 105) (v := ?_) (a' := ?_) #[true, true, false, false, false, false, false] rfl rfl (by kernel_rfl) (fun _ _ _ h => h) (Or.inl ⟨by rfl, ?_⟩) ?_ ?_
      rotate_left
      ·intro w'
       go_simp
       with_reducible rfl
      rotate_left
      ·simp only [Act.put, List.setIfInBounds_toArray, List.set_cons_zero, List.set_cons_succ, i64_w, i32_w]
       rfl
      refine take_ (i := 3) (N := some 107) (v := ?_) (a' := ?_) #[true, true, false, true, false, false, false] rfl rfl (by kernel_rfl) (fun _ _ _ h => h) (Or.inl ⟨by rfl, ?_⟩) hHeld ?_ ?_
      rotate_left
      ·rintro w' ⟨s0, s1, s2⟩
       go_simp
       with_reducible rfl
      rotate_left
      ·simp only [Act.put, List.setIfInBounds_toArray, List.set_cons_zero, List.set_cons_succ, i64_w, i32_w]
       rfl
      refine one_ (i := 2) (N := some 106) #[true, true, true, true, false, false, false] rfl rfl (by kernel_rfl) (by decide) (fun K hK => ?_)
      refine goes_ Try.func36 (by kernel_rfl) rfl #[.slice (some ad161) l0.length c0, .int .i64 t159] (by rfl) rfl rfl (by (try simp only [List.map_toArray, List.map_cons, List.map_nil]); first | done | rfl | (simp only [List.length_drop, List.length_take]; rfl)) ?_
      with_reducible refine (quartermasterref18_without.calls (fun k_ => ((P0_ k_ ∨ w.heap.size ≤ k_) ∧ (some k_ ≠ (.slice (some ⟨go27, 0, none⟩) y171.length co30 : Value).ownBlock ∧ (k_ ≠ gb157 ∧ k_ ≠ gb169)))) _ _ l0 t159 t178 _ ?side1 A54.out).mono ?_
      (case side1 => exact HO_0.out)
      rintro e w56 ⟨v179, rfl, ho0, hb⟩
      refine ⟨_, rfl, ?_⟩
      have n0_ := Aside0.mk (Kd.V_elder' (by (with_reducible repeat (first | apply Kd.V_alloc | apply Kd.V_drewN | apply Kd.V_drew)); exact HO_0.out) (Kd.N_base ho0) hb)
      have n1_ := Aside0.mk (Kd.R_below (by (with_reducible repeat (first | apply Kd.R_alloc | apply Kd.R_drewN | apply Kd.R_drew)); exact HO_13.out) hb)
      have n2_ := Aside0.mk (Kd.N_lower (Kd.N_mono (ok' := fun k_ => (P0_ k_ ∨ w.heap.size ≤ k_) ∧ some k_ ≠ (.slice (some ⟨go27, 0, none⟩) y171.length co30 : Value).ownBlock ∧ k_ ≠ gb157 ∧ k_ ≠ gb169) ho0 (fun k_ hk_ => ⟨Or.elim hk_ (fun hs_ => hs_.1) (fun hn_ => (.inr (Nat.le_trans (below_size (by repeat (first | (with_reducible first | exact HB.out | apply below_alloc | apply pw_below_drewN | apply below_drew1 | refine below_set ?_ GE157.out | refine below_set ?_ GE169.out) | exact HB.out))) hn_))), Or.elim hk_ (fun hs_ => hs_.2.1) (fun hn_ => (Kd.fresh' (Kd.R_lt (by (with_reducible repeat (first | apply Kd.R_alloc | apply Kd.R_drewN | apply Kd.R_drew)); exact HO_13.out)) k_ hn_)), Or.elim hk_ (fun hs_ => hs_.2.2.1) (fun hn_ => (Kd.freshB (g := gb157) (o := .cells #[.int .i64 0, .int .i64 0, .int .i64 0] 33 (0, 0)) (by (with_reducible repeat (first | refine blk_drewN ?_ _ | refine blk_drew ?_ | refine blk_alloc ?_ _)); exact BK157.out) k_ hn_)), Or.elim hk_ (fun hs_ => hs_.2.2.2) (fun hn_ => (Kd.freshB (g := gb169) (o := .cells #[.int .i64 ((rd_T33 y164 a2).f0), .int .i64 ((rd_T33 y164 a2).f1), .int .i64 a3] 33 (0, 0)) (by (with_reducible repeat (first | refine blk_drewN ?_ _ | refine blk_drew ?_ | refine blk_alloc ?_ _)); exact BK169.out) k_ hn_))⟩)) (below_size (by repeat (first | (with_reducible first | exact HB.out | apply below_alloc | apply pw_below_drewN | apply below_drew1 | refine below_set ?_ GE157.out | refine below_set ?_ GE169.out) | exact HB.out))))
      have n3_ := Aside0.mk (blk_below (g := gb157) (o := .cells #[.int .i64 0, .int .i64 0, .int .i64 0] 33 (0, 0)) (by (with_reducible repeat (first | refine blk_drewN ?_ _ | refine blk_drew ?_ | refine blk_alloc ?_ _)); exact BK157.out) hb)
      have n4_ := Aside0.mk (blk_below (g := gb169) (o := .cells #[.int .i64 ((rd_T33 y164 a2).f0), .int .i64 ((rd_T33 y164 a2).f1), .int .i64 a3] 33 (0, 0)) (by (with_reducible repeat (first | refine blk_drewN ?_ _ | refine blk_drew ?_ | refine blk_alloc ?_ _)); exact BK169.out) hb)
      have n5_ := Aside0.mk (below_step (by repeat (first | (with_reducible first | exact HB.out | apply below_alloc | apply pw_below_drewN | apply below_drew1 | refine below_set ?_ GE157.out | refine below_set ?_ GE169.out) | exact HB.out)) hb)
      clear HO_0
      clear HO_13
      clear BK157
      clear BK169
      clear HB
      have HO_0 := n0_
      have HO_13 := n1_
      have HO180 := n2_
      have BK157 := n3_
      have BK169 := n4_
      have HB := n5_
      clear n0_ n1_ n2_ n3_ n4_ n5_
      (try clear hb)
      (try clear hb2)
      (try clear hk)
      (try clear hi)
      (try clear ho0)
      refine hK.out _ _ ⟨(blk_cell BK169.out 0).trans rfl, (blk_cell BK169.out 1).trans rfl, (blk_cell BK169.out 2).trans rfl⟩ (fun hHeld => ?_)
      clear hK K
      refine norm_ (a' := ?_) ?_ ?_
      rotate_left
      ·show Act.put _ (some 106) _ = _
       simp only [Act.put, List.setIfInBounds_toArray, List.set_cons_zero, List.set_cons_succ, i64_w, i32_w]
       rfl
      refine pure_ (i := 4) (N := some 8) (v := ?_) (a' := ?_) #[true, true, true, true, true, false, false] rfl rfl (by kernel_rfl) (fun _ _ _ h => h) (Or.inl ⟨by rfl, ?_⟩) ?_ ?_
      rotate_left
      ·intro w'
       go_simp
       with_reducible rfl
      rotate_left
      ·simp only [Act.put, List.setIfInBounds_toArray, List.set_cons_zero, List.set_cons_succ, i64_w, i32_w]
       rfl
      refine one_ (i := 5) (N := none) #[true, true, true, true, true, true, false] rfl rfl (by kernel_rfl) (by decide) (fun K hK => ?_)
      have hs57 : w56.cell? ⟨gb157, 0, none⟩ = some (.int .i64 0) := (blk_cell BK157.out 0).trans rfl
      have hfs57 := blk_frozen BK157.out 0
      have hns57_1 := NB169_157.out
      have hms57_1 := NB157_169.out
      have hs58 : w56.cell? ⟨gb157, 1, none⟩ = some (.int .i64 0) := (blk_cell BK157.out 1).trans rfl
      have hfs58 := blk_frozen BK157.out 1
      have hns58_1 := NB169_157.out
      have hms58_1 := NB157_169.out
      have hs59 : w56.cell? ⟨gb157, 2, none⟩ = some (.int .i64 0) := (blk_cell BK157.out 2).trans rfl
      have hfs59 := blk_frozen BK157.out 2
      have hns59_1 := NB169_157.out
      have hms59_1 := NB157_169.out
      refine skip_ (w1 := ?_) (by rfl) rfl ?_ ?_
      rotate_left
      ·go_simp
       rfl
      refine hK.out _ _ ⟨((cell_far (p := ⟨gb157, _, none⟩) NB169_157.out _).trans (((cell_far (p := ⟨gb157, _, none⟩) NB169_157.out _).trans (((cell_far (p := ⟨gb157, _, none⟩) NB169_157.out _).trans (hHeld.1)))))), ((cell_far (p := ⟨gb157, _, none⟩) NB169_157.out _).trans (((cell_far (p := ⟨gb157, _, none⟩) NB169_157.out _).trans (((cell_far (p := ⟨gb157, _, none⟩) NB169_157.out _).trans (hHeld.2.1)))))), ((cell_far (p := ⟨gb157, _, none⟩) NB169_157.out _).trans (((cell_far (p := ⟨gb157, _, none⟩) NB169_157.out _).trans (((cell_far (p := ⟨gb157, _, none⟩) NB169_157.out _).trans (hHeld.2.2))))))⟩ (fun hHeld => ?_)
      clear hK K
      refine pure_ (i := 6) (N := some 10) (v := ?_) (a' := ?_) #[true, true, true, true, true, true, true] rfl rfl (by kernel_rfl) (fun _ _ _ h => h) (Or.inl ⟨by rfl, ?_⟩) ?_ ?_
      rotate_left
      ·intro w'
       go_simp
       with_reducible rfl
      rotate_left
      ·simp only [Act.put, List.setIfInBounds_toArray, List.set_cons_zero, List.set_cons_succ, i64_w, i32_w]
       rfl
      refine done_ (by kernel_rfl) ?_
      try go_wp2
      refine bodyPost_ret (results_list (rs := [.tmp 8, .cell 9 33, .tmp 10]) rfl (by simp) (.tmp (.cell gb157 33 #[.int .i64 ((rd_T33 y164 a2).f0), .int .i64 ((rd_T33 y164 a2).f1), .int .i64 a3] (0, 0) _ rfl (by (with_reducible repeat (first | refine blk_drewN ?_ _ | refine blk_drew ?_ | refine blk_alloc ?_ _)); refine blk_put (cs := #[.int .i64 ((rd_T33 y164 a2).f0), .int .i64 ((rd_T33 y164 a2).f1), .int .i64 0]) ?_ 2 _ rfl; (with_reducible repeat (first | refine blk_drewN ?_ _ | refine blk_drew ?_ | refine blk_alloc ?_ _)); refine blk_put (cs := #[.int .i64 ((rd_T33 y164 a2).f0), .int .i64 0, .int .i64 0]) ?_ 1 _ rfl; (with_reducible repeat (first | refine blk_drewN ?_ _ | refine blk_drew ?_ | refine blk_alloc ?_ _)); refine blk_put (cs := #[.int .i64 0, .int .i64 0, .int .i64 0]) ?_ 0 _ rfl; (with_reducible repeat (first | refine blk_drewN ?_ _ | refine blk_drew ?_ | refine blk_alloc ?_ _)); exact BK157.out) Try.underlying33 rfl (by kernel_rfl) (.tmp .nil)))) rfl ?_
      exact ⟨_, by first | rfl | (simp [errW_none, errW_some] <;> rfl) | (simp [*, errW_none, errW_some] <;> rfl), by (with_reducible repeat (first | apply Kd.N_alloc | apply Kd.N_drewN | apply Kd.N_drew)); exact Kd.N_mono (Kd.N_far (p := ⟨gb157, 2, none⟩) (Kd.N_far (p := ⟨gb157, 1, none⟩) (Kd.N_far (p := ⟨gb157, 0, none⟩) (Kd.N_mono HO180.out (fun k_ hk => (⟨hk, hk.2.2.1⟩ : _ ∧ k_ ≠ gb157))) (fun _ hk => hk.2) (.int .i64 ((rd_T33 y164 a2).f0))) (fun _ hk => hk.2) (.int .i64 ((rd_T33 y164 a2).f1))) (fun _ hk => hk.2) (.int .i64 a3)) (fun _ hk => hk.1.1), by repeat (first | (with_reducible first | exact HB.out | apply below_alloc | apply pw_below_drewN | apply below_drew1 | refine below_set ?_ GE157.out | refine below_set ?_ GE169.out) | exact HB.out)⟩
     subst c41
     have H1 : (if ([] : List (S25)).length + l0.length < 3518437208883 then ((some (([] : List (S25)) ++ l0 : List (S25))).bind fun y173 => (if 0 ≤ t159 then (if t159 < (l0.length : Int) then (if t159 < (y173.length : Int) then (some ((y173.set (t159 : Int).toNat (⟨a1, (rd_T25 l0 t159).f1, y171⟩ : S25)), ((rd_T33 y164 a2).f0), ((rd_T33 y164 a2).f1), a3, 0)) else (none)) else (none)) else (none))) else (none)) = some (r1, r2, r3, r4, r5) := by rw [if_pos rfl] at H; exact H
     clear H
     have H := H1
     clear H1
     by_cases c42 : ([] : List (S25)).length + l0.length < 3518437208883
     rotate_left
     ·rw [if_neg c42] at H
      exact absurd H (by simp)
     rw [if_pos c42] at H
     have LMc42 := Aside0.mk c42
     clear c42
     obtain ⟨y173, hy173⟩ : ∃ y_ : List (S25), y_ = (([] : List (S25)) ++ l0) := ⟨_, rfl⟩
     replace H : (if 0 ≤ t159 then (if t159 < (l0.length : Int) then (if t159 < (y173.length : Int) then (some ((y173.set (t159 : Int).toNat (⟨a1, (rd_T25 l0 t159).f1, y171⟩ : S25)), ((rd_T33 y164 a2).f0), ((rd_T33 y164 a2).f1), a3, 0)) else (none)) else (none)) else (none)) = some (r1, r2, r3, r4, r5) := by first | (rw [hy173]; with_reducible exact H) | (have H2_ := (Option.bind_some _ _).symm.trans H; rw [hy173]; with_reducible exact H2_) | (have H2_ := (Option.bind_some _ _).symm.trans H; with_reducible exact H2_) | with_reducible exact H | (rw [hy173]; exact H) | exact H
     have Ny173 := Aside0.mk hy173
     clear hy173
     by_cases c43 : 0 ≤ t159
     rotate_left
     ·rw [if_neg c43] at H
      exact absurd H (by simp)
     rw [if_pos c43] at H
     have c43b0 : decide (0 ≤ t159) = true := decide_eq_true c43
     clear c43
     by_cases c44 : t159 < (l0.length : Int)
     rotate_left
     ·rw [if_neg c44] at H
      exact absurd H (by simp)
     rw [if_pos c44] at H
     have c44b0 : decide (t159 < (l0.length : Int)) = true := decide_eq_true c44
     clear c44
     by_cases c45 : t159 < (y173.length : Int)
     rotate_left
     ·rw [if_neg c45] at H
      exact absurd H (by simp)
     rw [if_pos c45] at H
     have c45b0 : decide (t159 < (y173.length : Int)) = true := decide_eq_true c45
     clear c45
     obtain ⟨y177, hy177⟩ : ∃ y_ : List (S25), y_ = (y173.set (t159 : Int).toNat (⟨a1, (rd_T25 l0 t159).f1, y171⟩ : S25)) := ⟨_, rfl⟩
     replace H : (some (y177, ((rd_T33 y164 a2).f0), ((rd_T33 y164 a2).f1), a3, 0)) = some (r1, r2, r3, r4, r5) := by first | (rw [hy177]; with_reducible exact H) | (have H2_ := (Option.bind_some _ _).symm.trans H; rw [hy177]; with_reducible exact H2_) | (have H2_ := (Option.bind_some _ _).symm.trans H; with_reducible exact H2_) | with_reducible exact H | (rw [hy177]; exact H) | exact H
     have Ny177 := Aside0.mk hy177
     clear hy177
     simp only [Option.some.injEq, Prod.mk.injEq] at H
     obtain ⟨rfl, rfl, rfl, rfl, rfl⟩ := H
     try go_wp2_with (first | ((with_reducible refine gate_builtin (b := .append) (xs := #[.const (.slice none 0 0), .tmp 108]) rfl ?_); (try (refine gate_guard (by rfl) ?_; dsimp only)); at_builtin; refine Kd.N_append_rows k25 (w0 := w) w.heap.size rfl (.const (.slice none 0 0)) (.tmp 108) 22 25 (.agg #[(.int .i64 0), (.int .i64 0), (.slice none 0 0)]) 40 rfl Try.underlying22 info25 rfl (by decide) (by omega) (.slice none 0 0) ([] : List (S25)) l0 _ _ _ (fun k_ => (P0_ k_ ∨ w.heap.size ≤ k_) ∧ some k_ ≠ (.slice (some ⟨go27, 0, none⟩) y171.length co30 : Value).ownBlock ∧ k_ ≠ gb157 ∧ k_ ≠ gb169) (fun k_ => ((fun k_ => (P0_ k_ ∨ w.heap.size ≤ k_) ∧ some k_ ≠ (.slice (some ⟨go27, 0, none⟩) y171.length co30 : Value).ownBlock ∧ k_ ≠ gb157 ∧ k_ ≠ gb169)) k_ ∧ some k_ ≠ (.slice none 0 0 : Value).ownBlock) rfl rfl ?aO ?aR (fun _ hk => hk) ?aF ?aB ?aS ?aL ?_; (case aR => exact (by skip; exact Kd.V_F (Kd.V_mono (ok' := (fun k_ => ((fun k_ => (P0_ k_ ∨ w.heap.size ≤ k_) ∧ some k_ ≠ (.slice (some ⟨go27, 0, none⟩) y171.length co30 : Value).ownBlock ∧ k_ ≠ gb157 ∧ k_ ≠ gb169)) k_ ∧ some k_ ≠ (.slice none 0 0 : Value).ownBlock)) (HO_0.out) (fun k_ hk => ⟨⟨hk.1, ⟨hk.2.1, ⟨hk.2.2.1, hk.2.2.2⟩⟩⟩, (by simp [Value.ownBlock])⟩)))); (case aB => exact (by repeat (first | (with_reducible first | exact HB.out | apply below_alloc | apply pw_below_drewN | apply below_drew1 | refine below_set ?_ GE157.out | refine below_set ?_ GE169.out) | exact HB.out))); (case aF => exact (fun k_ hk => ⟨(.inr (Nat.le_trans (below_size (by repeat (first | (with_reducible first | exact HB.out | apply below_alloc | apply pw_below_drewN | apply below_drew1 | refine below_set ?_ GE157.out | refine below_set ?_ GE169.out) | exact HB.out))) hk)), Kd.fresh' (Kd.R_lt (by (with_reducible repeat (first | apply Kd.R_alloc | apply Kd.R_drewN | apply Kd.R_drew)); exact HO_13.out)) k_ hk, Kd.freshB (g := gb157) (o := .cells #[.int .i64 0, .int .i64 0, .int .i64 0] 33 (0, 0)) (by (with_reducible repeat (first | refine blk_drewN ?_ _ | refine blk_drew ?_ | refine blk_alloc ?_ _)); exact BK157.out) k_ hk, Kd.freshB (g := gb169) (o := .cells #[.int .i64 ((rd_T33 y164 a2).f0), .int .i64 ((rd_T33 y164 a2).f1), .int .i64 a3] 33 (0, 0)) (by (with_reducible repeat (first | refine blk_drewN ?_ _ | refine blk_drew ?_ | refine blk_alloc ?_ _)); exact BK169.out) k_ hk⟩)); (case aO => exact ((Kd.N_nil _ _ _ _ (fun k_ => (P0_ k_ ∨ w.heap.size ≤ k_) ∧ some k_ ≠ (.slice (some ⟨go27, 0, none⟩) y171.length co30 : Value).ownBlock ∧ k_ ≠ gb157 ∧ k_ ≠ gb169)))); (case aS => exact (below_size (by repeat (first | (with_reducible first | exact HB.out | apply below_alloc | apply pw_below_drewN | apply below_drew1 | refine below_set ?_ GE157.out | refine below_set ?_ GE169.out) | exact HB.out)))); (case aL => have := LMc42.out; omega); intro v174 w47 ho hb hg hat; rw [← Ny173.out] at ho; have n0_ := Aside0.mk (Kd.V_afterv (Kd.V_apart_nil (by (with_reducible repeat (first | apply Kd.V_alloc | apply Kd.V_drewN | apply Kd.V_drew)); exact HO_0.out)) hg hat); have n1_ := Aside0.mk (Kd.R_grown (by (with_reducible repeat (first | apply Kd.R_alloc | apply Kd.R_drewN | apply Kd.R_drew)); exact HO_13.out) hg (fun _ _ => by simp [Value.ownBlock])); have n2_ := Aside0.mk (blk_grown (g := gb157) (o := .cells #[.int .i64 0, .int .i64 0, .int .i64 0] 33 (0, 0)) (by (with_reducible repeat (first | refine blk_drewN ?_ _ | refine blk_drew ?_ | refine blk_alloc ?_ _)); exact BK157.out) hg (by simp [Value.ownBlock])); have n3_ := Aside0.mk (blk_grown (g := gb169) (o := .cells #[.int .i64 ((rd_T33 y164 a2).f0), .int .i64 ((rd_T33 y164 a2).f1), .int .i64 a3] 33 (0, 0)) (by (with_reducible repeat (first | refine blk_drewN ?_ _ | refine blk_drew ?_ | refine blk_alloc ?_ _)); exact BK169.out) hg (by simp [Value.ownBlock])); have n4_ := Aside0.mk (hb); have n5_ := Aside0.mk (ho); clear HO_0; clear HO_13; clear BK157; clear BK169; clear HB; have HO_0 := n0_; have HO_13 := n1_; have BK157 := n2_; have BK169 := n3_; have HB := n4_; have HO175 := n5_; clear n0_ n1_ n2_ n3_ n4_ n5_; clear ho hb hg hat; have p176 : 0 ≤ (t159 : Int) := of_decide_eq_true (by first | (with_reducible assumption) | assumption); have q176 : t159 < (l0.length : Int) := of_decide_eq_true (by first | (with_reducible assumption) | assumption); obtain ⟨ad176, A176_2, c176_2, e176, hx176_0, hx176_1, hx176_2, hl176_2, hi176_2⟩ := at_T25 (Kd.V_reads' HO_0.out).2.2 t159 p176 q176; obtain rfl : ad161 = ad176 := (by injection e176); obtain ⟨ce176, hce176, hMe176, hcc176⟩ := Kd.V_get HO_0.out z25 t159 p176 (by first | exact q176 | exact of_decide_eq_true (by first | (with_reducible assumption) | assumption) | (have e_ := (Kd.V_reads' HO_0.out).1; omega)); obtain ⟨ua176_2, uc176_2, rfl, ul176_2, ge176_2⟩ := k25_openF hMe176; have hv176_2 := hcc176 2 _ rfl; rw [add_field _ _ 2 (by omega)] at hv176_2; replace hv176_2 := Option.some.inj (hv176_2.symm.trans hx176_2); injection hv176_2 with hva_ hvn_ hvc_; rw [hva_] at ge176_2; rw [hvc_] at ul176_2; have HL176_2 := Aside0.mk (show Kd.V k33 33 _ w.heap.size _ _ ((rd_T25 l0 t159).f2) from Kd.V_mk ul176_2 ge176_2); clear hva_ hvn_ hvc_ ge176_2 ul176_2; clear hcc176 hce176; have HR176_2 := Aside0.mk hi176_2; have HC176_2 := Aside0.mk hl176_2; clear hi176_2 hl176_2; replace p176 := eq_true p176; replace q176 := eq_true q176; have p46 : 0 ≤ (t159 : Int) := of_decide_eq_true (by first | (with_reducible assumption) | assumption); have q46 : (t159 : Int) < ((y173.length : Int) : Int) := of_decide_eq_true (by first | (with_reducible assumption) | assumption); obtain ⟨go46, co46, eo46, gb46, gl46, cl46, HG46⟩ := Kd.N_form HO175.out (by omega); (first | cases eo46 | (injection eo46 with ea_ en_ ec_; (first | subst ea_ | (injection ea_ with ea_; subst ea_)); subst ec_; clear en_)); have GB46 := Aside0.mk gb46; have GG46 := Aside0.mk HG46; clear gb46 gl46 HG46; obtain ⟨ce46, hcl46, hM46, hcc46, hfr46⟩ := Kd.N_elem HO175.out z25 (t159 : Int) p46 q46; obtain ⟨ua46_2, uc46_2, rfl, ul46_2, ge46_2⟩ := k25_openF hM46; have hx46_0 : w47.cell? ⟨go46, (t159 : Int).toNat * 3, none⟩ = some (.int .i64 ((rd_T25 y173 t159).f0)) := hcc46 0 _ rfl; have hx46_1 : w47.cell? ⟨go46, (t159 : Int).toNat * 3 + 1, none⟩ = some (.int .i64 ((rd_T25 y173 t159).f1)) := hcc46 1 _ rfl; have hx46_2 : w47.cell? ⟨go46, (t159 : Int).toNat * 3 + 2, none⟩ = some (.slice ua46_2 ((rd_T25 y173 t159).f2).length uc46_2) := hcc46 2 _ rfl; have hf46_0 : w47.frozen? ⟨go46, (t159 : Int).toNat * 3, none⟩ = false := hfr46 0; have hf46_1 : w47.frozen? ⟨go46, (t159 : Int).toNat * 3 + 1, none⟩ = false := hfr46 1; have hf46_2 : w47.frozen? ⟨go46, (t159 : Int).toNat * 3 + 2, none⟩ = false := hfr46 2; clear hcl46 hcc46 hfr46 hM46; replace p46 := eq_true p46; replace q46 := eq_true q46; have HX48 := Aside0.mk (show Kd.N k25 25 w47 w.heap.size (fun k_ => (P0_ k_ ∨ w.heap.size ≤ k_) ∧ k_ ≠ gb157 ∧ k_ ≠ gb169) (.slice (some ⟨go46, 0, none⟩) y173.length co46) y173 from (by (with_reducible repeat (first | apply Kd.N_alloc | apply Kd.N_drewN | apply Kd.N_drew)); exact Kd.N_mono HO175.out (fun _ hk => ⟨hk.1, ⟨hk.2.2.1, hk.2.2.2⟩⟩))); obtain ⟨ce48, hcl48, hM48, hcc48, hfr48⟩ := Kd.N_elem HX48.out z25 (t159 : Int) (of_decide_eq_true (by first | (with_reducible assumption) | assumption)) (by have h_ : (t159 : Int) < ((y173.length : Int) : Int) := of_decide_eq_true (by first | (with_reducible assumption) | assumption); first | exact h_ | (have e_ := (Kd.N_reads' HO175.out).1; omega) | simpa using h_); obtain ⟨ua48_2, uc48_2, rfl, ul48_2, ge48_2⟩ := k25_openF hM48; have HP48 := Kd.N_seg HX48.out (t159 : Int) (of_decide_eq_true (by first | (with_reducible assumption) | assumption)) (by have h_ : (t159 : Int) < ((y173.length : Int) : Int) := of_decide_eq_true (by first | (with_reducible assumption) | assumption); first | exact h_ | (have e_ := (Kd.N_reads' HO175.out).1; omega) | simpa using h_) (seg := [.int .i64 a1, .int .i64 ((rd_T25 l0 t159).f1), .slice (some ⟨go27, 0, none⟩) y171.length co30]) (j := 0) hcl48 hcc48 (show 3 ≤ 3 from by decide) (x' := (⟨a1, (rd_T25 l0 t159).f1, y171⟩ : S25)) (k25_mkF _ _ (⟨a1, (rd_T25 l0 t159).f1, y171⟩ : S25) (Kd.R_reads' (Kd.R_mono (ok' := (fun k_ => ((fun k_ => (P0_ k_ ∨ w.heap.size ≤ k_) ∧ k_ ≠ gb157 ∧ k_ ≠ gb169)) k_ ∧ k_ ≠ go46)) (Kd.R_apart' (HO_13.out) (Kd.N_typed HO175.out) (by decide)) (fun k_ hk => ⟨⟨(.inr (hk.1.1)), ⟨hk.1.2.1, hk.1.2.2⟩⟩, fun e_ => (hk.2) (by rw [e_]; rfl)⟩))).2.1 (Kd.R_F (Kd.R_mono (ok' := (fun k_ => ((fun k_ => (P0_ k_ ∨ w.heap.size ≤ k_) ∧ k_ ≠ gb157 ∧ k_ ≠ gb169)) k_ ∧ k_ ≠ go46)) (Kd.R_apart' (HO_13.out) (Kd.N_typed HO175.out) (by decide)) (fun k_ hk => ⟨⟨(.inr (hk.1.1)), ⟨hk.1.2.1, hk.1.2.2⟩⟩, fun e_ => (hk.2) (by rw [e_]; rfl)⟩)))) (fun _ hk => hk); have hx48_0 := hcc48 0 _ rfl; (try simp only [show (k25).sz = 3 from rfl, Nat.mul_one, Nat.add_zero] at hx48_0); have hf48_0 := hfr48 0; (try simp only [show (k25).sz = 3 from rfl, Nat.mul_one, Nat.add_zero] at hf48_0); have hx48_1 := hcc48 1 _ rfl; (try simp only [show (k25).sz = 3 from rfl, Nat.mul_one, Nat.add_zero] at hx48_1); have hf48_1 := hfr48 1; (try simp only [show (k25).sz = 3 from rfl, Nat.mul_one, Nat.add_zero] at hf48_1); have hx48_2 := hcc48 2 _ rfl; (try simp only [show (k25).sz = 3 from rfl, Nat.mul_one, Nat.add_zero] at hx48_2); have hf48_2 := hfr48 2; (try simp only [show (k25).sz = 3 from rfl, Nat.mul_one, Nat.add_zero] at hf48_2); clear hcl48 hcc48 hfr48 hM48) | ((with_reducible refine gate_store (t := 25) (p := 120) rfl ?_); refine store_event (t := 25) (p := 120) (v := ?vo_w49) (w1 := (((w47.setCell ⟨go46, (t159 : Int).toNat * 3, none⟩ (.int .i64 a1)).setCell ⟨go46, (t159 : Int).toNat * 3 + 1, none⟩ (.int .i64 ((rd_T25 l0 t159).f1))).setCell ⟨go46, (t159 : Int).toNat * 3 + 2, none⟩ (.slice (some ⟨go27, 0, none⟩) y171.length co30))) ?hg ?ho ?hn ?hr ?_; (case ho => rfl); (case hg => rfl); (case hn => rfl); (case hr => first | (go_simp; done) | (go_simp; rfl)); intro w49 hw; have hg : w47.grownBy w49 (some go46) := (by rw [hw]; exact HP48.2); have hp_ : Kd.N k25 25 w49 w.heap.size (fun k_ => (P0_ k_ ∨ w.heap.size ≤ k_) ∧ k_ ≠ gb157 ∧ k_ ≠ gb169) (.slice (some ⟨go46, 0, none⟩) y173.length co46) y177 := (by rw [hw, Ny177.out]; exact HP48.1); clear HP48; have n0_ := Aside0.mk (Kd.V_afterv (v := (.slice (some ⟨go46, 0, none⟩) y173.length co46)) (v1 := (.slice (some ⟨go46, 0, none⟩) y173.length co46)) (ok := (fun k_ => (P0_ k_ ∨ w.heap.size ≤ k_) ∧ some k_ ≠ (.slice (some ⟨go27, 0, none⟩) y171.length co30 : Value).ownBlock ∧ k_ ≠ gb157 ∧ k_ ≠ gb169)) (by (with_reducible repeat (first | apply Kd.V_alloc | apply Kd.V_drewN | apply Kd.V_drew)); exact HO_0.out) hg (.inl rfl)); have n1_ := Aside0.mk (blk_grown (g := gb157) (o := .cells #[.int .i64 0, .int .i64 0, .int .i64 0] 33 (0, 0)) (by (with_reducible repeat (first | refine blk_drewN ?_ _ | refine blk_drew ?_ | refine blk_alloc ?_ _)); exact BK157.out) hg (Kd.N_ne HO175.out BK157.out (by decide))); have n2_ := Aside0.mk (blk_grown (g := gb169) (o := .cells #[.int .i64 ((rd_T33 y164 a2).f0), .int .i64 ((rd_T33 y164 a2).f1), .int .i64 a3] 33 (0, 0)) (by (with_reducible repeat (first | refine blk_drewN ?_ _ | refine blk_drew ?_ | refine blk_alloc ?_ _)); exact BK169.out) hg (Kd.N_ne HO175.out BK169.out (by decide))); have n3_ := Aside0.mk (hp_); have n4_ := Aside0.mk (Kd.V_afterv (v := (.slice (some ⟨go46, 0, none⟩) y173.length co46)) (v1 := (.slice (some ⟨go46, 0, none⟩) y173.length co46)) (ok := (fun k_ => (P0_ k_ ∨ w.heap.size ≤ k_) ∧ some k_ ≠ (.slice (some ⟨go27, 0, none⟩) y171.length co30 : Value).ownBlock ∧ k_ ≠ gb157 ∧ k_ ≠ gb169)) (by (with_reducible repeat (first | apply Kd.V_alloc | apply Kd.V_drewN | apply Kd.V_drew)); exact HL176_2.out) hg (.inl rfl)); have n5_ := Aside0.mk ((by rw [hw]; exact below_set (below_set (below_set (HB.out) GB46.out) GB46.out) GB46.out : Below w.heap.size w w49)); clear HO_0; clear BK157; clear BK169; clear HO175; clear HL176_2; clear HB; clear HO_13; have HO_0 := n0_; have BK157 := n1_; have BK169 := n2_; have HO175 := n3_; have HL176_2 := n4_; have HB := n5_; clear n0_ n1_ n2_ n3_ n4_ n5_; clear hg hw hp_))
     have n0_ := Aside0.mk (Kd.V_drew HO_0.out)
     have n1_ := Aside0.mk (Kd.N_drew HO175.out)
     have n2_ := Aside0.mk (Kd.V_drew HL176_2.out)
     have n3_ := Aside0.mk (blk_drew BK157.out)
     have n4_ := Aside0.mk (blk_drew BK169.out)
     have n5_ := Aside0.mk (below_drew1 HB.out)
     clear HO_0
     clear HO175
     clear HL176_2
     clear BK157
     clear BK169
     clear HB
     have HO_0 := n0_
     have HO175 := n1_
     have HL176_2 := n2_
     have BK157 := n3_
     have BK169 := n4_
     have HB := n5_
     clear n0_ n1_ n2_ n3_ n4_ n5_
     refine start_ (n := 5) (S := fun w' => w'.cell? ⟨gb169, 0, none⟩ = some (.int .i64 ((rd_T33 y164 a2).f0)) ∧ w'.cell? ⟨gb169, 1, none⟩ = some (.int .i64 ((rd_T33 y164 a2).f1)) ∧ w'.cell? ⟨gb169, 2, none⟩ = some (.int .i64 a3)) (ds := []) #[false, false, false, false, false] (by kernel_rfl) rfl rfl ⟨(blk_cell BK169.out 0).trans rfl, (blk_cell BK169.out 1).trans rfl, (blk_cell BK169.out 2).trans rfl⟩ (fun hHeld => ?_)
     generalize w49.drew = w50 at HO_0 HO175 HL176_2 BK157 BK169 HB hHeld ⊢
     refine pure_ (i := 0) (N := some 121) (v := ?_) (a' := ?_) #[true, false, false, false, false] rfl rfl (by kernel_rfl) (fun _ _ _ h => h) (Or.inl ⟨by rfl, ?_⟩) ?_ ?_
     rotate_left
     ·intro w'
      go_simp
      with_reducible rfl
     rotate_left
     ·simp only [Act.put, List.setIfInBounds_toArray, List.set_cons_zero, List.set_cons_succ, i64_w, i32_w]
      rfl
     refine pure_ (i := 2) (N := some 8) (v := ?_) (a' := ?_) #[true, false, true, false, false] rfl rfl (by kernel_rfl) (fun _ _ _ h => h) (Or.inl ⟨by rfl, ?_⟩) ?_ ?_
     rotate_left
     ·intro w'
      go_simp
      with_reducible rfl
     rotate_left
     ·simp only [Act.put, List.setIfInBounds_toArray, List.set_cons_zero, List.set_cons_succ, i64_w, i32_w]
      rfl
     refine take_ (i := 1) (N := some 122) (v := ?_) (a' := ?_) #[true, true, true, false, false] rfl rfl (by kernel_rfl) (fun _ _ _ h => h) (Or.inl ⟨by rfl, ?_⟩) hHeld ?_ ?_
     rotate_left
     ·rintro w' ⟨s0, s1, s2⟩
      go_simp
      with_reducible rfl
     rotate_left
     ·simp only [Act.put, List.setIfInBounds_toArray, List.set_cons_zero, List.set_cons_succ, i64_w, i32_w]
      rfl
     refine one_ (i := 3) (N := none) #[true, true, true, true, false] rfl rfl (by kernel_rfl) (by decide) (fun K hK => ?_)
     have hs51 : w50.cell? ⟨gb157, 0, none⟩ = some (.int .i64 0) := (blk_cell BK157.out 0).trans rfl
     have hfs51 := blk_frozen BK157.out 0
     have hns51_1 := NB169_157.out
     have hms51_1 := NB157_169.out
     have hs52 : w50.cell? ⟨gb157, 1, none⟩ = some (.int .i64 0) := (blk_cell BK157.out 1).trans rfl
     have hfs52 := blk_frozen BK157.out 1
     have hns52_1 := NB169_157.out
     have hms52_1 := NB157_169.out
     have hs53 : w50.cell? ⟨gb157, 2, none⟩ = some (.int .i64 0) := (blk_cell BK157.out 2).trans rfl
     have hfs53 := blk_frozen BK157.out 2
     have hns53_1 := NB169_157.out
     have hms53_1 := NB157_169.out
     refine skip_ (w1 := ?_) (by rfl) rfl ?_ ?_
     rotate_left
     ·go_simp
      rfl
     refine hK.out _ _ ⟨((cell_far (p := ⟨gb157, _, none⟩) NB169_157.out _).trans (((cell_far (p := ⟨gb157, _, none⟩) NB169_157.out _).trans (((cell_far (p := ⟨gb157, _, none⟩) NB169_157.out _).trans (hHeld.1)))))), ((cell_far (p := ⟨gb157, _, none⟩) NB169_157.out _).trans (((cell_far (p := ⟨gb157, _, none⟩) NB169_157.out _).trans (((cell_far (p := ⟨gb157, _, none⟩) NB169_157.out _).trans (hHeld.2.1)))))), ((cell_far (p := ⟨gb157, _, none⟩) NB169_157.out _).trans (((cell_far (p := ⟨gb157, _, none⟩) NB169_157.out _).trans (((cell_far (p := ⟨gb157, _, none⟩) NB169_157.out _).trans (hHeld.2.2))))))⟩ (fun hHeld => ?_)
     clear hK K
     refine pure_ (i := 4) (N := some 10) (v := ?_) (a' := ?_) #[true, true, true, true, true] rfl rfl (by kernel_rfl) (fun _ _ _ h => h) (Or.inl ⟨by rfl, ?_⟩) ?_ ?_
     rotate_left
     ·intro w'
      go_simp
      with_reducible rfl
     rotate_left
     ·simp only [Act.put, List.setIfInBounds_toArray, List.set_cons_zero, List.set_cons_succ, i64_w, i32_w]
      rfl
     refine done_ (by kernel_rfl) ?_
     try go_wp2
     refine bodyPost_ret (results_list (rs := [.tmp 8, .cell 9 33, .tmp 10]) rfl (by simp) (.tmp (.cell gb157 33 #[.int .i64 ((rd_T33 y164 a2).f0), .int .i64 ((rd_T33 y164 a2).f1), .int .i64 a3] (0, 0) _ rfl (by (with_reducible repeat (first | refine blk_drewN ?_ _ | refine blk_drew ?_ | refine blk_alloc ?_ _)); refine blk_put (cs := #[.int .i64 ((rd_T33 y164 a2).f0), .int .i64 ((rd_T33 y164 a2).f1), .int .i64 0]) ?_ 2 _ rfl; (with_reducible repeat (first | refine blk_drewN ?_ _ | refine blk_drew ?_ | refine blk_alloc ?_ _)); refine blk_put (cs := #[.int .i64 ((rd_T33 y164 a2).f0), .int .i64 0, .int .i64 0]) ?_ 1 _ rfl; (with_reducible repeat (first | refine blk_drewN ?_ _ | refine blk_drew ?_ | refine blk_alloc ?_ _)); refine blk_put (cs := #[.int .i64 0, .int .i64 0, .int .i64 0]) ?_ 0 _ rfl; (with_reducible repeat (first | refine blk_drewN ?_ _ | refine blk_drew ?_ | refine blk_alloc ?_ _)); exact BK157.out) Try.underlying33 rfl (by kernel_rfl) (.tmp .nil)))) rfl ?_
     exact ⟨_, by first | rfl | (simp [errW_none, errW_some] <;> rfl) | (simp [*, errW_none, errW_some] <;> rfl), by (with_reducible repeat (first | apply Kd.N_alloc | apply Kd.N_drewN | apply Kd.N_drew)); exact Kd.N_mono (Kd.N_far (p := ⟨gb157, 2, none⟩) (Kd.N_far (p := ⟨gb157, 1, none⟩) (Kd.N_far (p := ⟨gb157, 0, none⟩) (Kd.N_mono HO175.out (fun k_ hk => (⟨hk, hk.2.1⟩ : _ ∧ k_ ≠ gb157))) (fun _ hk => hk.2) (.int .i64 ((rd_T33 y164 a2).f0))) (fun _ hk => hk.2) (.int .i64 ((rd_T33 y164 a2).f1))) (fun _ hk => hk.2) (.int .i64 a3)) (fun _ hk => hk.1.1), by repeat (first | (with_reducible first | exact HB.out | apply below_alloc | apply pw_below_drewN | apply below_drew1 | refine below_set ?_ GE157.out | refine below_set ?_ GE169.out) | exact HB.out)⟩
end Go.Proofs.Ytjhdjkanepdgiaa.Ph
 