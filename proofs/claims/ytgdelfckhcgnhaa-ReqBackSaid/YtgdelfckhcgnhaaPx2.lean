/- Plain functions, and the walks that show that the Go functions come to them: written by this session's program wip/myprint.py, which runs the kit's print over the translation. No conditions beside those that each contract states. -/
import Derived.Test.YtgdelfckhcgnhaaPx0
import Derived.Test.YtgdelfckhcgnhaaPx1
import Derived.Test.YtgdelfckhcgnhaaReqExt
import Derived.Test.YtgdelfckhcgnhaaPa0
import Derived.Test.YtgdelfckhcgnhaaPa1
import Derived.Test.YtgdelfckhcgnhaaPa2
import Derived.Test.YtgdelfckhcgnhaaPa3
import Derived.Test.YtgdelfckhcgnhaaPa4
import Derived.Test.YtgdelfckhcgnhaaPa6
import Derived.Test.YtgdelfckhcgnhaaPaq
namespace Go.Proofs.Ytgdelfckhcgnhaa.Px
open Go.Proofs.Ytgdelfckhcgnhaa.Pa Go.Proofs.Ytgdelfckhcgnhaa.Ext
open Go.RowKit Go.Proofs.YtgdelfckhcgnhaaW.PrintWords Go.Proofs.YtgdelfckhcgnhaaW.PrintLast Go.Proofs.YtgdelfckhcgnhaaW.PrintMore
attribute [local go_sem] max2_int min2_int max_two min_two max_three min_three max_four min_four   -- for this text's walks alone
set_option linter.unusedVariables false
set_option linter.unusedSimpArgs false

/-! ### quartermasterlaw21_ReqBack: function 7 -/
mutual
def quartermasterlaw21_ReqBack.j0 : Nat → Bool → Bool → Int → Int → Int → Int → Int → Int → Int → Int → Int → List (S93) → Int → Int → Int → List (S93) → List (S76) → Option (Bool)
  | 0, _, _, _, _, _, _, _, _, _, _, _, _, _, _, _, _, _ => none
  | k + 1, x5, x36, x148000, x148001, x148002, x148003, x148004, x148005, x148006, x148007, x148008, x148009, x149000, x149001, x149002, x149003, x149004 => (if x36 = true then (some x5) else ((req_Encode.f x148000 x148001 x148002 x148003 x148004 x148005 x148006 x148007 x148008 x148009).bind fun bt150 => (if bt150.2 = 0 then ((req_Decode.f bt150.1).bind fun bt154 => ((Pa.quartermasterref21_Reqs.f k x148000 x148001 x148002 x148003 x148004 x148005 x148006 x148007 x148008 x148009 bt154.1 bt154.2.1 bt154.2.2.1 bt154.2.2.2.1 bt154.2.2.2.2.1 bt154.2.2.2.2.2.1 bt154.2.2.2.2.2.2.1 bt154.2.2.2.2.2.2.2.1 bt154.2.2.2.2.2.2.2.2.1 bt154.2.2.2.2.2.2.2.2.2.1).bind fun t168 => (if bt154.2.2.2.2.2.2.2.2.2.2 = 0 then (if t168 = true then ((req_May.f x148000 x148001 x148002 x148003 x148004 x148005 x148006 x148007 x148008 x148009).bind fun t169 => (if t169 = true then (quartermasterlaw21_ReqBack.j1 k bt150.2 x148000 x148001 x148002 x148003 x148004 x148005 x148006 x148007 x148008 x148009 x149000 x149001 x149002 x149003 x149004) else (none))) else (none)) else (none)))) else (quartermasterlaw21_ReqBack.j1 k bt150.2 x148000 x148001 x148002 x148003 x148004 x148005 x148006 x148007 x148008 x148009 x149000 x149001 x149002 x149003 x149004))))
def quartermasterlaw21_ReqBack.j1 : Nat → Int → Int → Int → Int → Int → Int → Int → Int → Int → Int → List (S93) → Int → Int → Int → List (S93) → List (S76) → Option (Bool)
  | 0, _, _, _, _, _, _, _, _, _, _, _, _, _, _, _, _ => none
  | k + 1, x7, x148000, x148001, x148002, x148003, x148004, x148005, x148006, x148007, x148008, x148009, x149000, x149001, x149002, x149003, x149004 => ((req_Answer.f x149000 x149001 x149002 x149003 x149004).bind fun bt170 => (if bt170.2 = 0 then ((req_Told.f bt170.1).bind fun bt174 => ((Pa.quartermasterref21_Replies.f k x149000 x149001 x149002 x149003 x149004 bt174.1 bt174.2.1 bt174.2.2.1 bt174.2.2.2.1 bt174.2.2.2.2.1).bind fun t185 => (if bt174.2.2.2.2.2 = 0 then (some t185) else (none)))) else ((req_May.f x148000 x148001 x148002 x148003 x148004 x148005 x148006 x148007 x148008 x148009).bind fun t186 => (if ((x7 == 0) == t186) = true then (if bt170.2 = 1 then (some ((bt170.1.length : Int) == 0)) else (none)) else (none)))))
end
def quartermasterlaw21_ReqBack.f (k : Nat) (a0_0 : Int) (a0_1 : Int) (a0_2 : Int) (a0_3 : Int) (a0_4 : Int) (a0_5 : Int) (a0_6 : Int) (a0_7 : Int) (a0_8 : Int) (l0_9 : List (S93)) (a1_0 : Int) (a1_1 : Int) (a1_2 : Int) (l1_3 : List (S93)) (l1_4 : List (S76)) : Option (Bool) := ((quartermasterlaw21_awake.f k).bind fun t149 => (if t149 = true then (if (l0_9.length : Int) > 20 then (quartermasterlaw21_ReqBack.j0 k t149 true a0_0 a0_1 a0_2 a0_3 a0_4 a0_5 a0_6 a0_7 a0_8 l0_9 a1_0 a1_1 a1_2 l1_3 l1_4) else (if (l1_3.length : Int) > 20 then (quartermasterlaw21_ReqBack.j0 k t149 true a0_0 a0_1 a0_2 a0_3 a0_4 a0_5 a0_6 a0_7 a0_8 l0_9 a1_0 a1_1 a1_2 l1_3 l1_4) else (quartermasterlaw21_ReqBack.j0 k t149 (decide ((l1_4.length : Int) > 20)) a0_0 a0_1 a0_2 a0_3 a0_4 a0_5 a0_6 a0_7 a0_8 l0_9 a1_0 a1_1 a1_2 l1_3 l1_4))) else (quartermasterlaw21_ReqBack.j0 k t149 true a0_0 a0_1 a0_2 a0_3 a0_4 a0_5 a0_6 a0_7 a0_8 l0_9 a1_0 a1_1 a1_2 l1_3 l1_4)))
theorem quartermasterlaw21_ReqBack.mono_l : ∀ k, (∀ y0 y1 y2 y3 y4 y5 y6 y7 y8 y9 y10 y11 y12 y13 y14 y15 y16, LeO (quartermasterlaw21_ReqBack.j0 k y0 y1 y2 y3 y4 y5 y6 y7 y8 y9 y10 y11 y12 y13 y14 y15 y16) (quartermasterlaw21_ReqBack.j0 (k + 1) y0 y1 y2 y3 y4 y5 y6 y7 y8 y9 y10 y11 y12 y13 y14 y15 y16)) ∧ (∀ y0 y1 y2 y3 y4 y5 y6 y7 y8 y9 y10 y11 y12 y13 y14 y15, LeO (quartermasterlaw21_ReqBack.j1 k y0 y1 y2 y3 y4 y5 y6 y7 y8 y9 y10 y11 y12 y13 y14 y15) (quartermasterlaw21_ReqBack.j1 (k + 1) y0 y1 y2 y3 y4 y5 y6 y7 y8 y9 y10 y11 y12 y13 y14 y15))
  | 0 => ⟨fun _ _ _ _ _ _ _ _ _ _ _ _ _ _ _ _ _ r h => by simp [quartermasterlaw21_ReqBack.j0] at h, fun _ _ _ _ _ _ _ _ _ _ _ _ _ _ _ _ r h => by simp [quartermasterlaw21_ReqBack.j1] at h⟩
  | k + 1 => by
    obtain ⟨ih0, ih1⟩ := quartermasterlaw21_ReqBack.mono_l k
    refine ⟨?_, ?_⟩
    · intro y0 y1 y2 y3 y4 y5 y6 y7 y8 y9 y10 y11 y12 y13 y14 y15 y16
      unfold quartermasterlaw21_ReqBack.j0
      repeat' first
      | (with_reducible exact ih0 _ _ _ _ _ _ _ _ _ _ _ _ _ _ _ _ _)
      | (with_reducible exact ih1 _ _ _ _ _ _ _ _ _ _ _ _ _ _ _ _)
      | (with_reducible exact Pa.quartermasterref21_Replies.mono _ _ _ _ _ _ _ _ _ _ _)
      | (with_reducible exact Pa.quartermasterref21_Reqs.mono _ _ _ _ _ _ _ _ _ _ _ _ _ _ _ _ _ _ _ _ _)
      | (with_reducible exact quartermasterlaw21_awake.mono _)
      | (with_reducible exact LeO.refl _)
      | (with_reducible exact LeO.none _)
      | (with_reducible refine LeO.ite ?_ ?_)
      | (with_reducible refine LeO.bind ?_ (fun _ => ?_))
      | exact ih0 _ _ _ _ _ _ _ _ _ _ _ _ _ _ _ _ _
      | exact ih1 _ _ _ _ _ _ _ _ _ _ _ _ _ _ _ _
      | exact Pa.quartermasterref21_Replies.mono _ _ _ _ _ _ _ _ _ _ _
      | exact Pa.quartermasterref21_Reqs.mono _ _ _ _ _ _ _ _ _ _ _ _ _ _ _ _ _ _ _ _ _
      | exact quartermasterlaw21_awake.mono _
      | exact LeO.none _
      | refine LeO.ite ?_ ?_
      | refine LeO.bind ?_ (fun _ => ?_)
    · intro y0 y1 y2 y3 y4 y5 y6 y7 y8 y9 y10 y11 y12 y13 y14 y15
      unfold quartermasterlaw21_ReqBack.j1
      repeat' first
      | (with_reducible exact ih0 _ _ _ _ _ _ _ _ _ _ _ _ _ _ _ _ _)
      | (with_reducible exact ih1 _ _ _ _ _ _ _ _ _ _ _ _ _ _ _ _)
      | (with_reducible exact Pa.quartermasterref21_Replies.mono _ _ _ _ _ _ _ _ _ _ _)
      | (with_reducible exact Pa.quartermasterref21_Reqs.mono _ _ _ _ _ _ _ _ _ _ _ _ _ _ _ _ _ _ _ _ _)
      | (with_reducible exact quartermasterlaw21_awake.mono _)
      | (with_reducible exact LeO.refl _)
      | (with_reducible exact LeO.none _)
      | (with_reducible refine LeO.ite ?_ ?_)
      | (with_reducible refine LeO.bind ?_ (fun _ => ?_))
      | exact ih0 _ _ _ _ _ _ _ _ _ _ _ _ _ _ _ _ _
      | exact ih1 _ _ _ _ _ _ _ _ _ _ _ _ _ _ _ _
      | exact Pa.quartermasterref21_Replies.mono _ _ _ _ _ _ _ _ _ _ _
      | exact Pa.quartermasterref21_Reqs.mono _ _ _ _ _ _ _ _ _ _ _ _ _ _ _ _ _ _ _ _ _
      | exact quartermasterlaw21_awake.mono _
      | exact LeO.none _
      | refine LeO.ite ?_ ?_
      | refine LeO.bind ?_ (fun _ => ?_)
theorem quartermasterlaw21_ReqBack.mono : ∀ a0 a1 a2 a3 a4 a5 a6 a7 a8 a9 a10 a11 a12 a13 a14 k, LeO (quartermasterlaw21_ReqBack.f k a0 a1 a2 a3 a4 a5 a6 a7 a8 a9 a10 a11 a12 a13 a14) (quartermasterlaw21_ReqBack.f (k + 1) a0 a1 a2 a3 a4 a5 a6 a7 a8 a9 a10 a11 a12 a13 a14) := by
  intro a0 a1 a2 a3 a4 a5 a6 a7 a8 a9 a10 a11 a12 a13 a14 k
  obtain ⟨ih0, ih1⟩ := quartermasterlaw21_ReqBack.mono_l k
  unfold quartermasterlaw21_ReqBack.f
  repeat' first
      | (with_reducible exact ih0 _ _ _ _ _ _ _ _ _ _ _ _ _ _ _ _ _)
      | (with_reducible exact ih1 _ _ _ _ _ _ _ _ _ _ _ _ _ _ _ _)
      | (with_reducible exact Pa.quartermasterref21_Replies.mono _ _ _ _ _ _ _ _ _ _ _)
      | (with_reducible exact Pa.quartermasterref21_Reqs.mono _ _ _ _ _ _ _ _ _ _ _ _ _ _ _ _ _ _ _ _ _)
      | (with_reducible exact quartermasterlaw21_awake.mono _)
      | (with_reducible exact LeO.refl _)
      | (with_reducible exact LeO.none _)
      | (with_reducible refine LeO.ite ?_ ?_)
      | (with_reducible refine LeO.bind ?_ (fun _ => ?_))
      | exact ih0 _ _ _ _ _ _ _ _ _ _ _ _ _ _ _ _ _
      | exact ih1 _ _ _ _ _ _ _ _ _ _ _ _ _ _ _ _
      | exact Pa.quartermasterref21_Replies.mono _ _ _ _ _ _ _ _ _ _ _
      | exact Pa.quartermasterref21_Reqs.mono _ _ _ _ _ _ _ _ _ _ _ _ _ _ _ _ _ _ _ _ _
      | exact quartermasterlaw21_awake.mono _
      | exact LeO.none _
      | refine LeO.ite ?_ ?_
      | refine LeO.bind ?_ (fun _ => ?_)
set_option maxHeartbeats 8000000 in
set_option maxRecDepth 100000 in
theorem quartermasterlaw21_ReqBack.calls (k : Nat) (a0_0 : Int) (a0_1 : Int) (a0_2 : Int) (a0_3 : Int) (a0_4 : Int) (a0_5 : Int) (a0_6 : Int) (a0_7 : Int) (a0_8 : Int) (A0_9 : Option Addr) (c0_9 : Nat) (l0_9 : List (S93)) (a1_0 : Int) (a1_1 : Int) (a1_2 : Int) (A1_3 : Option Addr) (c1_3 : Nat) (l1_3 : List (S93)) (A1_4 : Option Addr) (c1_4 : Nat) (l1_4 : List (S76)) (r : Bool) (w : World) (hr0_9 : Kd.C k93 w A0_9 l0_9.length l0_9) (hc0_9 : l0_9.length ≤ c0_9) (hr1_3 : Kd.C k93 w A1_3 l1_3.length l1_3) (hc1_3 : l1_3.length ≤ c1_3) (hr1_4 : Kd.C k76 w A1_4 l1_4.length l1_4) (hc1_4 : l1_4.length ≤ c1_4) (h : quartermasterlaw21_ReqBack.f k a0_0 a0_1 a0_2 a0_3 a0_4 a0_5 a0_6 a0_7 a0_8 l0_9 a1_0 a1_1 a1_2 l1_3 l1_4 = some r) :
    Calls Try.prog 7 #[.agg #[.int .i64 a0_0, .int .i64 a0_1, .int .i64 a0_2, .int .i64 a0_3, .int .i64 a0_4, .int .i64 a0_5, .int .i64 a0_6, .int .i64 a0_7, .int .i64 a0_8, .slice A0_9 l0_9.length c0_9], .agg #[.int .i64 a1_0, .int .i64 a1_1, .int .i64 a1_2, .slice A1_3 l1_3.length c1_3, .slice A1_4 l1_4.length c1_4]] w fun e w' => e = .returned (.bool r) ∧ Below w.heap.size w w' := by
  have hu26 := Try.underlying26
  have hu38 := Try.underlying38
  have HR0_9 := Aside0.mk hr0_9
  have HC0_9 := Aside0.mk hc0_9
  clear hr0_9 hc0_9
  have HR1_3 := Aside0.mk hr1_3
  have HC1_3 := Aside0.mk hc1_3
  clear hr1_3 hc1_3
  have HR1_4 := Aside0.mk hr1_4
  have HC1_4 := Aside0.mk hc1_4
  clear hr1_4 hc1_4
  have HB := Aside0.mk (Below.refl w.heap.size w)
  have H : ((quartermasterlaw21_awake.f k).bind fun t149 => (if t149 = true then (if (l0_9.length : Int) > 20 then (quartermasterlaw21_ReqBack.j0 k t149 true a0_0 a0_1 a0_2 a0_3 a0_4 a0_5 a0_6 a0_7 a0_8 l0_9 a1_0 a1_1 a1_2 l1_3 l1_4) else (if (l1_3.length : Int) > 20 then (quartermasterlaw21_ReqBack.j0 k t149 true a0_0 a0_1 a0_2 a0_3 a0_4 a0_5 a0_6 a0_7 a0_8 l0_9 a1_0 a1_1 a1_2 l1_3 l1_4) else (quartermasterlaw21_ReqBack.j0 k t149 (decide ((l1_4.length : Int) > 20)) a0_0 a0_1 a0_2 a0_3 a0_4 a0_5 a0_6 a0_7 a0_8 l0_9 a1_0 a1_1 a1_2 l1_3 l1_4))) else (quartermasterlaw21_ReqBack.j0 k t149 true a0_0 a0_1 a0_2 a0_3 a0_4 a0_5 a0_6 a0_7 a0_8 l0_9 a1_0 a1_1 a1_2 l1_3 l1_4))) = some r := h
  clear h
  replace H := Option.bind_eq_some_iff.mp H
  obtain ⟨t149, A30, H⟩ := H
  replace H : (if t149 = true then (if (l0_9.length : Int) > 20 then (quartermasterlaw21_ReqBack.j0 k t149 true a0_0 a0_1 a0_2 a0_3 a0_4 a0_5 a0_6 a0_7 a0_8 l0_9 a1_0 a1_1 a1_2 l1_3 l1_4) else (if (l1_3.length : Int) > 20 then (quartermasterlaw21_ReqBack.j0 k t149 true a0_0 a0_1 a0_2 a0_3 a0_4 a0_5 a0_6 a0_7 a0_8 l0_9 a1_0 a1_1 a1_2 l1_3 l1_4) else (quartermasterlaw21_ReqBack.j0 k t149 (decide ((l1_4.length : Int) > 20)) a0_0 a0_1 a0_2 a0_3 a0_4 a0_5 a0_6 a0_7 a0_8 l0_9 a1_0 a1_1 a1_2 l1_3 l1_4))) else (quartermasterlaw21_ReqBack.j0 k t149 true a0_0 a0_1 a0_2 a0_3 a0_4 a0_5 a0_6 a0_7 a0_8 l0_9 a1_0 a1_1 a1_2 l1_3 l1_4)) = some r := H
  have A3 := Aside0.mk A30
  clear A30
  have HC4 := Aside0.mk H
  clear H
  go_enter Try.func7, Try.ntmps7
  go_upto_region 2 with (first | ((with_reducible refine gate_dst (N := 2) rfl ?_); (try (refine gate_guard (by rfl) ?_; dsimp only)); refine box_event ?hg (N := 2) ?hd (cs := #[.int .i64 a0_0, .int .i64 a0_1, .int .i64 a0_2, .int .i64 a0_3, .int .i64 a0_4, .int .i64 a0_5, .int .i64 a0_6, .int .i64 a0_7, .int .i64 a0_8, .slice A0_9 l0_9.length c0_9]) (t := 26) ?hr ?_; (case hd => rfl); (case hg => rfl); (case hr => first | (go_simp; done) | (go_simp; rfl)); intro gb147 hg w5 hbox hb; have n0_ := Aside0.mk (below_step (by repeat (first | (with_reducible first | exact HB.out | apply below_alloc | apply pw_below_drewN | apply below_drew1) | exact HB.out)) hb); have n1_ := Aside0.mk (hbox); have n2_ := Aside0.mk ((by rw [hg]; exact (below_size (by repeat (first | (with_reducible first | exact HB.out | apply below_alloc | apply pw_below_drewN | apply below_drew1) | exact HB.out))) : w.heap.size ≤ gb147)); have n3_ := Aside0.mk ((by rw [hg]; exact (below_size (by repeat (first | (with_reducible first | exact HB.out | apply below_alloc | apply pw_below_drewN | apply below_drew1) | exact HB.out))) : w.heap.size ≤ gb147)); clear HB; have HB := n0_; have BK147 := n1_; have GW147 := n2_; have GE147 := n3_; clear n0_ n1_ n2_ n3_; clear hb hbox hg) | ((with_reducible refine gate_dst (N := 3) rfl ?_); (try (refine gate_guard (by rfl) ?_; dsimp only)); refine box_event ?hg (N := 3) ?hd (cs := #[.int .i64 a1_0, .int .i64 a1_1, .int .i64 a1_2, .slice A1_3 l1_3.length c1_3, .slice A1_4 l1_4.length c1_4]) (t := 38) ?hr ?_; (case hd => rfl); (case hg => rfl); (case hr => first | (go_simp; done) | (go_simp; rfl)); intro gb148 hg w6 hbox hb; have n0_ := Aside0.mk (blk_below (g := gb147) (o := .cells #[.int .i64 a0_0, .int .i64 a0_1, .int .i64 a0_2, .int .i64 a0_3, .int .i64 a0_4, .int .i64 a0_5, .int .i64 a0_6, .int .i64 a0_7, .int .i64 a0_8, .slice A0_9 l0_9.length c0_9] 26 (0, 0)) (by (with_reducible repeat (first | refine blk_drewN ?_ _ | refine blk_drew ?_ | refine blk_alloc ?_ _)); exact BK147.out) hb); have n1_ := Aside0.mk (below_step (by repeat (first | (with_reducible first | exact HB.out | apply below_alloc | apply pw_below_drewN | apply below_drew1 | refine below_set ?_ GE147.out) | exact HB.out)) hb); have n2_ := Aside0.mk (hbox); have n3_ := Aside0.mk ((by rw [hg]; exact (below_size (by repeat (first | (with_reducible first | exact HB.out | apply below_alloc | apply pw_below_drewN | apply below_drew1 | refine below_set ?_ GE147.out) | exact HB.out))) : w.heap.size ≤ gb148)); have n4_ := Aside0.mk ((by rw [hg]; exact (below_size (by repeat (first | (with_reducible first | exact HB.out | apply below_alloc | apply pw_below_drewN | apply below_drew1 | refine below_set ?_ GE147.out) | exact HB.out))) : w.heap.size ≤ gb148)); have n5_ := Aside0.mk ((by rw [hg]; exact Nat.ne_of_lt (blk_lt (g := gb147) (o := .cells #[.int .i64 a0_0, .int .i64 a0_1, .int .i64 a0_2, .int .i64 a0_3, .int .i64 a0_4, .int .i64 a0_5, .int .i64 a0_6, .int .i64 a0_7, .int .i64 a0_8, .slice A0_9 l0_9.length c0_9] 26 (0, 0)) (by (with_reducible repeat (first | refine blk_drewN ?_ _ | refine blk_drew ?_ | refine blk_alloc ?_ _)); exact BK147.out)) : gb147 ≠ gb148)); have n6_ := Aside0.mk ((by rw [hg]; exact Nat.ne_of_gt (blk_lt (g := gb147) (o := .cells #[.int .i64 a0_0, .int .i64 a0_1, .int .i64 a0_2, .int .i64 a0_3, .int .i64 a0_4, .int .i64 a0_5, .int .i64 a0_6, .int .i64 a0_7, .int .i64 a0_8, .slice A0_9 l0_9.length c0_9] 26 (0, 0)) (by (with_reducible repeat (first | refine blk_drewN ?_ _ | refine blk_drew ?_ | refine blk_alloc ?_ _)); exact BK147.out)) : gb148 ≠ gb147)); clear BK147; clear HB; have BK147 := n0_; have HB := n1_; have BK148 := n2_; have GW148 := n3_; have GE148 := n4_; have NB147_148 := n5_; have NB148_147 := n6_; clear n0_ n1_ n2_ n3_ n4_ n5_ n6_; clear hb hbox hg) | ((with_reducible refine gate_callee (f := 8) rfl ?_); refine goesL_ (some 16) rfl rfl Try.func8 (by kernel_rfl) rfl #[] rfl (by (try simp only [List.map_toArray, List.map_cons, List.map_nil]); first | done | rfl | (simp only [List.length_drop, List.length_take]; rfl)) ?_; (with_reducible refine (quartermasterlaw21_awake.calls k  t149 _ A3.out).mono ?_); rintro e w7 ⟨rfl, hb⟩; refine ⟨_, rfl, ?_⟩; have n0_ := Aside0.mk (blk_below (g := gb147) (o := .cells #[.int .i64 a0_0, .int .i64 a0_1, .int .i64 a0_2, .int .i64 a0_3, .int .i64 a0_4, .int .i64 a0_5, .int .i64 a0_6, .int .i64 a0_7, .int .i64 a0_8, .slice A0_9 l0_9.length c0_9] 26 (0, 0)) (by (with_reducible repeat (first | refine blk_drewN ?_ _ | refine blk_drew ?_ | refine blk_alloc ?_ _)); exact BK147.out) hb); have n1_ := Aside0.mk (blk_below (g := gb148) (o := .cells #[.int .i64 a1_0, .int .i64 a1_1, .int .i64 a1_2, .slice A1_3 l1_3.length c1_3, .slice A1_4 l1_4.length c1_4] 38 (0, 0)) (by (with_reducible repeat (first | refine blk_drewN ?_ _ | refine blk_drew ?_ | refine blk_alloc ?_ _)); exact BK148.out) hb); have n2_ := Aside0.mk (below_step (by repeat (first | (with_reducible first | exact HB.out | apply below_alloc | apply pw_below_drewN | apply below_drew1 | refine below_set ?_ GE147.out | refine below_set ?_ GE148.out) | exact HB.out)) hb); clear BK147; clear BK148; clear HB; have BK147 := n0_; have BK148 := n1_; have HB := n2_; clear n0_ n1_ n2_; (try clear hb); (try clear hb2); (try clear hk); (try clear hi)))
  (try simp only [Act.put, List.setIfInBounds_toArray, List.set_cons_zero, List.set_cons_succ])
  go_cut [36] (fun v36 wc => ∃ (kq : Nat) (x36_3 : Bool), v36 = .bool x36_3 ∧ Aside0 (quartermasterlaw21_ReqBack.j0 kq t149 x36_3 a0_0 a0_1 a0_2 a0_3 a0_4 a0_5 a0_6 a0_7 a0_8 l0_9 a1_0 a1_1 a1_2 l1_3 l1_4 = some r) ∧ Aside0 (kq ≤ k) ∧ Aside0 (wc.heap[gb147]? = some (.cells #[.int .i64 a0_0, .int .i64 a0_1, .int .i64 a0_2, .int .i64 a0_3, .int .i64 a0_4, .int .i64 a0_5, .int .i64 a0_6, .int .i64 a0_7, .int .i64 a0_8, (.slice A0_9 l0_9.length c0_9)] 26 (0, 0))) ∧ Aside0 (wc.heap[gb148]? = some (.cells #[.int .i64 a1_0, .int .i64 a1_1, .int .i64 a1_2, (.slice A1_3 l1_3.length c1_3), (.slice A1_4 l1_4.length c1_4)] 38 (0, 0))) ∧ Aside0 (Below w.heap.size w wc))
  case first =>
    have H := HC4.out
    clear HC4
    by_cases c8 : t149 = true
    · subst c8
      have H1 : (if (l0_9.length : Int) > 20 then (quartermasterlaw21_ReqBack.j0 k true true a0_0 a0_1 a0_2 a0_3 a0_4 a0_5 a0_6 a0_7 a0_8 l0_9 a1_0 a1_1 a1_2 l1_3 l1_4) else (if (l1_3.length : Int) > 20 then (quartermasterlaw21_ReqBack.j0 k true true a0_0 a0_1 a0_2 a0_3 a0_4 a0_5 a0_6 a0_7 a0_8 l0_9 a1_0 a1_1 a1_2 l1_3 l1_4) else (quartermasterlaw21_ReqBack.j0 k true (decide ((l1_4.length : Int) > 20)) a0_0 a0_1 a0_2 a0_3 a0_4 a0_5 a0_6 a0_7 a0_8 l0_9 a1_0 a1_1 a1_2 l1_3 l1_4))) = some r := by rw [if_pos rfl] at H; exact H
      clear H
      have H := H1
      clear H1
      by_cases c9 : (l0_9.length : Int) > 20
      · rw [if_pos c9] at H
        have c9b0 : decide (20 < (l0_9.length : Int)) = true := decide_eq_true c9
        have c9b1 : decide (20 < l0_9.length) = true := decide_eq_true (by omega)
        clear c9
        (first | rw [c9b0] | (simp only [i64_w, i32_w]; rw [c9b0]) | skip)
        have H' := Aside0.mk H
        clear H
        have hnb10 := NB147_148.out
        have hnc10 := NB148_147.out
        have hcz11_0 : w7.cell? ⟨gb147, 0, none⟩ = some (.int .i64 a0_0) := (blk_cell BK147.out 0).trans rfl
        have hcz11_1 : w7.cell? ⟨gb147, 1, none⟩ = some (.int .i64 a0_1) := (blk_cell BK147.out 1).trans rfl
        have hcz11_2 : w7.cell? ⟨gb147, 2, none⟩ = some (.int .i64 a0_2) := (blk_cell BK147.out 2).trans rfl
        have hcz11_3 : w7.cell? ⟨gb147, 3, none⟩ = some (.int .i64 a0_3) := (blk_cell BK147.out 3).trans rfl
        have hcz11_4 : w7.cell? ⟨gb147, 4, none⟩ = some (.int .i64 a0_4) := (blk_cell BK147.out 4).trans rfl
        have hcz11_5 : w7.cell? ⟨gb147, 5, none⟩ = some (.int .i64 a0_5) := (blk_cell BK147.out 5).trans rfl
        have hcz11_6 : w7.cell? ⟨gb147, 6, none⟩ = some (.int .i64 a0_6) := (blk_cell BK147.out 6).trans rfl
        have hcz11_7 : w7.cell? ⟨gb147, 7, none⟩ = some (.int .i64 a0_7) := (blk_cell BK147.out 7).trans rfl
        have hcz11_8 : w7.cell? ⟨gb147, 8, none⟩ = some (.int .i64 a0_8) := (blk_cell BK147.out 8).trans rfl
        have hcz11_9 : w7.cell? ⟨gb147, 9, none⟩ = some (.slice A0_9 l0_9.length c0_9) := (blk_cell BK147.out 9).trans rfl
        have hfz11_0 := blk_frozen BK147.out 0
        have hfz11_1 := blk_frozen BK147.out 1
        have hfz11_2 := blk_frozen BK147.out 2
        have hfz11_3 := blk_frozen BK147.out 3
        have hfz11_4 := blk_frozen BK147.out 4
        have hfz11_5 := blk_frozen BK147.out 5
        have hfz11_6 := blk_frozen BK147.out 6
        have hfz11_7 := blk_frozen BK147.out 7
        have hfz11_8 := blk_frozen BK147.out 8
        have hfz11_9 := blk_frozen BK147.out 9
        go_wp2
        go_meet
        case rel => exact ⟨_, (true), (by first | rfl | (simp; done) | (simp [*]; done)), H', ⟨by first | omega | exact Nat.le_refl _⟩, ⟨by (with_reducible repeat (first | refine blk_drewN ?_ _ | refine blk_drew ?_ | refine blk_alloc ?_ _)); exact BK147.out⟩, ⟨by (with_reducible repeat (first | refine blk_drewN ?_ _ | refine blk_drew ?_ | refine blk_alloc ?_ _)); exact BK148.out⟩, ⟨by repeat (first | (with_reducible first | exact HB.out | apply below_alloc | apply pw_below_drewN | apply below_drew1 | refine below_set ?_ GE147.out | refine below_set ?_ GE148.out) | exact HB.out)⟩⟩
      · rw [if_neg c9] at H
        have c9b0 : decide (20 < (l0_9.length : Int)) = false := decide_eq_false c9
        have c9b1 : decide (20 < l0_9.length) = false := decide_eq_false (by omega)
        clear c9
        (first | rw [c9b0] | (simp only [i64_w, i32_w]; rw [c9b0]) | skip)
        by_cases c12 : (l1_3.length : Int) > 20
        · rw [if_pos c12] at H
          have c12b0 : decide (20 < (l1_3.length : Int)) = true := decide_eq_true c12
          have c12b1 : decide (20 < l1_3.length) = true := decide_eq_true (by omega)
          clear c12
          have H' := Aside0.mk H
          clear H
          have hnb13 := NB147_148.out
          have hnc13 := NB148_147.out
          have hcz14_0 : w7.cell? ⟨gb147, 0, none⟩ = some (.int .i64 a0_0) := (blk_cell BK147.out 0).trans rfl
          have hcz14_1 : w7.cell? ⟨gb147, 1, none⟩ = some (.int .i64 a0_1) := (blk_cell BK147.out 1).trans rfl
          have hcz14_2 : w7.cell? ⟨gb147, 2, none⟩ = some (.int .i64 a0_2) := (blk_cell BK147.out 2).trans rfl
          have hcz14_3 : w7.cell? ⟨gb147, 3, none⟩ = some (.int .i64 a0_3) := (blk_cell BK147.out 3).trans rfl
          have hcz14_4 : w7.cell? ⟨gb147, 4, none⟩ = some (.int .i64 a0_4) := (blk_cell BK147.out 4).trans rfl
          have hcz14_5 : w7.cell? ⟨gb147, 5, none⟩ = some (.int .i64 a0_5) := (blk_cell BK147.out 5).trans rfl
          have hcz14_6 : w7.cell? ⟨gb147, 6, none⟩ = some (.int .i64 a0_6) := (blk_cell BK147.out 6).trans rfl
          have hcz14_7 : w7.cell? ⟨gb147, 7, none⟩ = some (.int .i64 a0_7) := (blk_cell BK147.out 7).trans rfl
          have hcz14_8 : w7.cell? ⟨gb147, 8, none⟩ = some (.int .i64 a0_8) := (blk_cell BK147.out 8).trans rfl
          have hcz14_9 : w7.cell? ⟨gb147, 9, none⟩ = some (.slice A0_9 l0_9.length c0_9) := (blk_cell BK147.out 9).trans rfl
          have hfz14_0 := blk_frozen BK147.out 0
          have hfz14_1 := blk_frozen BK147.out 1
          have hfz14_2 := blk_frozen BK147.out 2
          have hfz14_3 := blk_frozen BK147.out 3
          have hfz14_4 := blk_frozen BK147.out 4
          have hfz14_5 := blk_frozen BK147.out 5
          have hfz14_6 := blk_frozen BK147.out 6
          have hfz14_7 := blk_frozen BK147.out 7
          have hfz14_8 := blk_frozen BK147.out 8
          have hfz14_9 := blk_frozen BK147.out 9
          have hcz15_0 : w7.cell? ⟨gb148, 0, none⟩ = some (.int .i64 a1_0) := (blk_cell BK148.out 0).trans rfl
          have hcz15_1 : w7.cell? ⟨gb148, 1, none⟩ = some (.int .i64 a1_1) := (blk_cell BK148.out 1).trans rfl
          have hcz15_2 : w7.cell? ⟨gb148, 2, none⟩ = some (.int .i64 a1_2) := (blk_cell BK148.out 2).trans rfl
          have hcz15_3 : w7.cell? ⟨gb148, 3, none⟩ = some (.slice A1_3 l1_3.length c1_3) := (blk_cell BK148.out 3).trans rfl
          have hcz15_4 : w7.cell? ⟨gb148, 4, none⟩ = some (.slice A1_4 l1_4.length c1_4) := (blk_cell BK148.out 4).trans rfl
          have hfz15_0 := blk_frozen BK148.out 0
          have hfz15_1 := blk_frozen BK148.out 1
          have hfz15_2 := blk_frozen BK148.out 2
          have hfz15_3 := blk_frozen BK148.out 3
          have hfz15_4 := blk_frozen BK148.out 4
          go_wp2
          go_meet
          case rel => exact ⟨_, (true), (by first | rfl | (simp; done) | (simp [*]; done)), H', ⟨by first | omega | exact Nat.le_refl _⟩, ⟨by (with_reducible repeat (first | refine blk_drewN ?_ _ | refine blk_drew ?_ | refine blk_alloc ?_ _)); exact BK147.out⟩, ⟨by (with_reducible repeat (first | refine blk_drewN ?_ _ | refine blk_drew ?_ | refine blk_alloc ?_ _)); exact BK148.out⟩, ⟨by repeat (first | (with_reducible first | exact HB.out | apply below_alloc | apply pw_below_drewN | apply below_drew1 | refine below_set ?_ GE147.out | refine below_set ?_ GE148.out) | exact HB.out)⟩⟩
        · rw [if_neg c12] at H
          have c12b0 : decide (20 < (l1_3.length : Int)) = false := decide_eq_false c12
          have c12b1 : decide (20 < l1_3.length) = false := decide_eq_false (by omega)
          clear c12
          have H' := Aside0.mk H
          clear H
          have hnb16 := NB147_148.out
          have hnc16 := NB148_147.out
          have hcz17_0 : w7.cell? ⟨gb147, 0, none⟩ = some (.int .i64 a0_0) := (blk_cell BK147.out 0).trans rfl
          have hcz17_1 : w7.cell? ⟨gb147, 1, none⟩ = some (.int .i64 a0_1) := (blk_cell BK147.out 1).trans rfl
          have hcz17_2 : w7.cell? ⟨gb147, 2, none⟩ = some (.int .i64 a0_2) := (blk_cell BK147.out 2).trans rfl
          have hcz17_3 : w7.cell? ⟨gb147, 3, none⟩ = some (.int .i64 a0_3) := (blk_cell BK147.out 3).trans rfl
          have hcz17_4 : w7.cell? ⟨gb147, 4, none⟩ = some (.int .i64 a0_4) := (blk_cell BK147.out 4).trans rfl
          have hcz17_5 : w7.cell? ⟨gb147, 5, none⟩ = some (.int .i64 a0_5) := (blk_cell BK147.out 5).trans rfl
          have hcz17_6 : w7.cell? ⟨gb147, 6, none⟩ = some (.int .i64 a0_6) := (blk_cell BK147.out 6).trans rfl
          have hcz17_7 : w7.cell? ⟨gb147, 7, none⟩ = some (.int .i64 a0_7) := (blk_cell BK147.out 7).trans rfl
          have hcz17_8 : w7.cell? ⟨gb147, 8, none⟩ = some (.int .i64 a0_8) := (blk_cell BK147.out 8).trans rfl
          have hcz17_9 : w7.cell? ⟨gb147, 9, none⟩ = some (.slice A0_9 l0_9.length c0_9) := (blk_cell BK147.out 9).trans rfl
          have hfz17_0 := blk_frozen BK147.out 0
          have hfz17_1 := blk_frozen BK147.out 1
          have hfz17_2 := blk_frozen BK147.out 2
          have hfz17_3 := blk_frozen BK147.out 3
          have hfz17_4 := blk_frozen BK147.out 4
          have hfz17_5 := blk_frozen BK147.out 5
          have hfz17_6 := blk_frozen BK147.out 6
          have hfz17_7 := blk_frozen BK147.out 7
          have hfz17_8 := blk_frozen BK147.out 8
          have hfz17_9 := blk_frozen BK147.out 9
          have hcz18_0 : w7.cell? ⟨gb148, 0, none⟩ = some (.int .i64 a1_0) := (blk_cell BK148.out 0).trans rfl
          have hcz18_1 : w7.cell? ⟨gb148, 1, none⟩ = some (.int .i64 a1_1) := (blk_cell BK148.out 1).trans rfl
          have hcz18_2 : w7.cell? ⟨gb148, 2, none⟩ = some (.int .i64 a1_2) := (blk_cell BK148.out 2).trans rfl
          have hcz18_3 : w7.cell? ⟨gb148, 3, none⟩ = some (.slice A1_3 l1_3.length c1_3) := (blk_cell BK148.out 3).trans rfl
          have hcz18_4 : w7.cell? ⟨gb148, 4, none⟩ = some (.slice A1_4 l1_4.length c1_4) := (blk_cell BK148.out 4).trans rfl
          have hfz18_0 := blk_frozen BK148.out 0
          have hfz18_1 := blk_frozen BK148.out 1
          have hfz18_2 := blk_frozen BK148.out 2
          have hfz18_3 := blk_frozen BK148.out 3
          have hfz18_4 := blk_frozen BK148.out 4
          go_wp2
          go_meet
          case rel => exact ⟨_, (decide ((l1_4.length : Int) > 20)), (by first | rfl | (simp; done) | (simp [*]; done)), H', ⟨by first | omega | exact Nat.le_refl _⟩, ⟨by (with_reducible repeat (first | refine blk_drewN ?_ _ | refine blk_drew ?_ | refine blk_alloc ?_ _)); exact BK147.out⟩, ⟨by (with_reducible repeat (first | refine blk_drewN ?_ _ | refine blk_drew ?_ | refine blk_alloc ?_ _)); exact BK148.out⟩, ⟨by repeat (first | (with_reducible first | exact HB.out | apply below_alloc | apply pw_below_drewN | apply below_drew1 | refine below_set ?_ GE147.out | refine below_set ?_ GE148.out) | exact HB.out)⟩⟩
    · replace c8 := Bool.eq_false_iff.mpr c8
      subst c8
      have H1 : (quartermasterlaw21_ReqBack.j0 k false true a0_0 a0_1 a0_2 a0_3 a0_4 a0_5 a0_6 a0_7 a0_8 l0_9 a1_0 a1_1 a1_2 l1_3 l1_4) = some r := by rw [if_neg (show ¬ (false = true) by decide)] at H; exact H
      clear H
      have H := H1
      clear H1
      have H' := Aside0.mk H
      clear H
      go_wp2
      go_meet
      case rel => exact ⟨_, (true), (by first | rfl | (simp; done) | (simp [*]; done)), H', ⟨by first | omega | exact Nat.le_refl _⟩, ⟨by (with_reducible repeat (first | refine blk_drewN ?_ _ | refine blk_drew ?_ | refine blk_alloc ?_ _)); exact BK147.out⟩, ⟨by (with_reducible repeat (first | refine blk_drewN ?_ _ | refine blk_drew ?_ | refine blk_alloc ?_ _)); exact BK148.out⟩, ⟨by repeat (first | (with_reducible first | exact HB.out | apply below_alloc | apply pw_below_drewN | apply below_drew1 | refine below_set ?_ GE147.out | refine below_set ?_ GE148.out) | exact HB.out)⟩⟩
  case rest =>
    clear HC4
    try clear c1
    try clear p2
    try clear c7
    try clear c8
    try clear c9
    try clear c9b0
    try clear c9b1
    try clear c10
    try clear c12
    try clear c12b0
    try clear c12b1
    try clear c13
    try clear c16
    try clear hcz11_0
    try clear hcz11_1
    try clear hcz11_2
    try clear hcz11_3
    try clear hcz11_4
    try clear hcz11_5
    try clear hcz11_6
    try clear hcz11_7
    try clear hcz11_8
    try clear hcz11_9
    try clear hcz14_0
    try clear hcz14_1
    try clear hcz14_2
    try clear hcz14_3
    try clear hcz14_4
    try clear hcz14_5
    try clear hcz14_6
    try clear hcz14_7
    try clear hcz14_8
    try clear hcz14_9
    try clear hcz15_0
    try clear hcz15_1
    try clear hcz15_2
    try clear hcz15_3
    try clear hcz15_4
    try clear hcz17_0
    try clear hcz17_1
    try clear hcz17_2
    try clear hcz17_3
    try clear hcz17_4
    try clear hcz17_5
    try clear hcz17_6
    try clear hcz17_7
    try clear hcz17_8
    try clear hcz17_9
    try clear hcz18_0
    try clear hcz18_1
    try clear hcz18_2
    try clear hcz18_3
    try clear hcz18_4
    try clear hfz11_0
    try clear hfz11_1
    try clear hfz11_2
    try clear hfz11_3
    try clear hfz11_4
    try clear hfz11_5
    try clear hfz11_6
    try clear hfz11_7
    try clear hfz11_8
    try clear hfz11_9
    try clear hfz14_0
    try clear hfz14_1
    try clear hfz14_2
    try clear hfz14_3
    try clear hfz14_4
    try clear hfz14_5
    try clear hfz14_6
    try clear hfz14_7
    try clear hfz14_8
    try clear hfz14_9
    try clear hfz15_0
    try clear hfz15_1
    try clear hfz15_2
    try clear hfz15_3
    try clear hfz15_4
    try clear hfz17_0
    try clear hfz17_1
    try clear hfz17_2
    try clear hfz17_3
    try clear hfz17_4
    try clear hfz17_5
    try clear hfz17_6
    try clear hfz17_7
    try clear hfz17_8
    try clear hfz17_9
    try clear hfz18_0
    try clear hfz18_1
    try clear hfz18_2
    try clear hfz18_3
    try clear hfz18_4
    obtain ⟨kq, x36_3, rfl, HA, HJ3, BK147, BK148, HB⟩ := hcut
    cases kq with
    | zero => exact absurd HA.out (by simp [quartermasterlaw21_ReqBack.j0])
    | succ kj3 =>
      have H := HA.out
      clear HA
      simp only [quartermasterlaw21_ReqBack.j0] at H
      by_cases c19 : x36_3 = true
      · subst c19
        have H1 : (some t149) = some r := by rw [if_pos rfl] at H; exact H
        clear H
        have H := H1
        clear H1
        obtain rfl := Option.some.inj H
        go_wp2
        go_ret
        exact ⟨by first | rfl | (simp [errW_none, errW_some] <;> rfl) | (simp [*, errW_none, errW_some] <;> rfl), by repeat (first | (with_reducible first | exact HB.out | apply below_alloc | apply pw_below_drewN | apply below_drew1 | refine below_set ?_ GE147.out | refine below_set ?_ GE148.out) | exact HB.out)⟩
      · replace c19 := Bool.eq_false_iff.mpr c19
        subst c19
        have H1 : ((req_Encode.f a0_0 a0_1 a0_2 a0_3 a0_4 a0_5 a0_6 a0_7 a0_8 l0_9).bind fun bt150 => (if bt150.2 = 0 then ((req_Decode.f bt150.1).bind fun bt154 => ((Pa.quartermasterref21_Reqs.f kj3 a0_0 a0_1 a0_2 a0_3 a0_4 a0_5 a0_6 a0_7 a0_8 l0_9 bt154.1 bt154.2.1 bt154.2.2.1 bt154.2.2.2.1 bt154.2.2.2.2.1 bt154.2.2.2.2.2.1 bt154.2.2.2.2.2.2.1 bt154.2.2.2.2.2.2.2.1 bt154.2.2.2.2.2.2.2.2.1 bt154.2.2.2.2.2.2.2.2.2.1).bind fun t168 => (if bt154.2.2.2.2.2.2.2.2.2.2 = 0 then (if t168 = true then ((req_May.f a0_0 a0_1 a0_2 a0_3 a0_4 a0_5 a0_6 a0_7 a0_8 l0_9).bind fun t169 => (if t169 = true then (quartermasterlaw21_ReqBack.j1 kj3 bt150.2 a0_0 a0_1 a0_2 a0_3 a0_4 a0_5 a0_6 a0_7 a0_8 l0_9 a1_0 a1_1 a1_2 l1_3 l1_4) else (none))) else (none)) else (none)))) else (quartermasterlaw21_ReqBack.j1 kj3 bt150.2 a0_0 a0_1 a0_2 a0_3 a0_4 a0_5 a0_6 a0_7 a0_8 l0_9 a1_0 a1_1 a1_2 l1_3 l1_4))) = some r := by rw [if_neg (show ¬ (false = true) by decide)] at H; exact H
        clear H
        have H := H1
        clear H1
        replace H := Option.bind_eq_some_iff.mp H
        obtain ⟨⟨t150, t153⟩, A200, H⟩ := H
        replace H : (if t153 = 0 then ((req_Decode.f t150).bind fun bt154 => ((Pa.quartermasterref21_Reqs.f kj3 a0_0 a0_1 a0_2 a0_3 a0_4 a0_5 a0_6 a0_7 a0_8 l0_9 bt154.1 bt154.2.1 bt154.2.2.1 bt154.2.2.2.1 bt154.2.2.2.2.1 bt154.2.2.2.2.2.1 bt154.2.2.2.2.2.2.1 bt154.2.2.2.2.2.2.2.1 bt154.2.2.2.2.2.2.2.2.1 bt154.2.2.2.2.2.2.2.2.2.1).bind fun t168 => (if bt154.2.2.2.2.2.2.2.2.2.2 = 0 then (if t168 = true then ((req_May.f a0_0 a0_1 a0_2 a0_3 a0_4 a0_5 a0_6 a0_7 a0_8 l0_9).bind fun t169 => (if t169 = true then (quartermasterlaw21_ReqBack.j1 kj3 t153 a0_0 a0_1 a0_2 a0_3 a0_4 a0_5 a0_6 a0_7 a0_8 l0_9 a1_0 a1_1 a1_2 l1_3 l1_4) else (none))) else (none)) else (none)))) else (quartermasterlaw21_ReqBack.j1 kj3 t153 a0_0 a0_1 a0_2 a0_3 a0_4 a0_5 a0_6 a0_7 a0_8 l0_9 a1_0 a1_1 a1_2 l1_3 l1_4)) = some r := H
        have A20 := Aside0.mk A200
        clear A200
        have HC21 := Aside0.mk H
        clear H
        have hnb22 := NB147_148.out
        have hnc22 := NB148_147.out
        have hcz23_0 : wc.cell? ⟨gb147, 0, none⟩ = some (.int .i64 a0_0) := (blk_cell BK147.out 0).trans rfl
        have hcz23_1 : wc.cell? ⟨gb147, 1, none⟩ = some (.int .i64 a0_1) := (blk_cell BK147.out 1).trans rfl
        have hcz23_2 : wc.cell? ⟨gb147, 2, none⟩ = some (.int .i64 a0_2) := (blk_cell BK147.out 2).trans rfl
        have hcz23_3 : wc.cell? ⟨gb147, 3, none⟩ = some (.int .i64 a0_3) := (blk_cell BK147.out 3).trans rfl
        have hcz23_4 : wc.cell? ⟨gb147, 4, none⟩ = some (.int .i64 a0_4) := (blk_cell BK147.out 4).trans rfl
        have hcz23_5 : wc.cell? ⟨gb147, 5, none⟩ = some (.int .i64 a0_5) := (blk_cell BK147.out 5).trans rfl
        have hcz23_6 : wc.cell? ⟨gb147, 6, none⟩ = some (.int .i64 a0_6) := (blk_cell BK147.out 6).trans rfl
        have hcz23_7 : wc.cell? ⟨gb147, 7, none⟩ = some (.int .i64 a0_7) := (blk_cell BK147.out 7).trans rfl
        have hcz23_8 : wc.cell? ⟨gb147, 8, none⟩ = some (.int .i64 a0_8) := (blk_cell BK147.out 8).trans rfl
        have hcz23_9 : wc.cell? ⟨gb147, 9, none⟩ = some (.slice A0_9 l0_9.length c0_9) := (blk_cell BK147.out 9).trans rfl
        have hfz23_0 := blk_frozen BK147.out 0
        have hfz23_1 := blk_frozen BK147.out 1
        have hfz23_2 := blk_frozen BK147.out 2
        have hfz23_3 := blk_frozen BK147.out 3
        have hfz23_4 := blk_frozen BK147.out 4
        have hfz23_5 := blk_frozen BK147.out 5
        have hfz23_6 := blk_frozen BK147.out 6
        have hfz23_7 := blk_frozen BK147.out 7
        have hfz23_8 := blk_frozen BK147.out 8
        have hfz23_9 := blk_frozen BK147.out 9
        go_upto_if 44 with (first | ((with_reducible refine gate_callee (f := 11) rfl ?_); refine goesL_ (some 40) rfl rfl Try.func11 (by kernel_rfl) rfl #[.agg #[.int .i64 a0_0, .int .i64 a0_1, .int .i64 a0_2, .int .i64 a0_3, .int .i64 a0_4, .int .i64 a0_5, .int .i64 a0_6, .int .i64 a0_7, .int .i64 a0_8, .slice A0_9 l0_9.length c0_9]] rfl (by (try simp only [List.map_toArray, List.map_cons, List.map_nil]); first | done | rfl | (simp only [List.length_drop, List.length_take]; rfl)) ?_; (with_reducible refine (req_Encode.calls a0_0 a0_1 a0_2 a0_3 a0_4 a0_5 a0_6 a0_7 a0_8 _ _ l0_9 t150 t153 _ ?side1 ?side2 A20.out).mono ?_); (case side1 => repeat (first | exact (Kd.C_below HR0_9.out HB.out) | (with_reducible refine Kd.C_alloc ?_ _) | (with_reducible refine Kd.C_drewN ?_ _) | (with_reducible refine Kd.C_drew ?_))); (case side2 => exact HC0_9.out); rintro e w24 ⟨v151, rfl, ho0, hb⟩; refine ⟨_, rfl, ?_⟩; have n0_ := Aside0.mk (Kd.R_lower ho0 (below_size (by repeat (first | (with_reducible first | exact HB.out | apply below_alloc | apply pw_below_drewN | apply below_drew1 | refine below_set ?_ GE147.out | refine below_set ?_ GE148.out) | exact HB.out)))); have n1_ := Aside0.mk (blk_below (g := gb147) (o := .cells #[.int .i64 a0_0, .int .i64 a0_1, .int .i64 a0_2, .int .i64 a0_3, .int .i64 a0_4, .int .i64 a0_5, .int .i64 a0_6, .int .i64 a0_7, .int .i64 a0_8, .slice A0_9 l0_9.length c0_9] 26 (0, 0)) (by (with_reducible repeat (first | refine blk_drewN ?_ _ | refine blk_drew ?_ | refine blk_alloc ?_ _)); exact BK147.out) hb); have n2_ := Aside0.mk (blk_below (g := gb148) (o := .cells #[.int .i64 a1_0, .int .i64 a1_1, .int .i64 a1_2, .slice A1_3 l1_3.length c1_3, .slice A1_4 l1_4.length c1_4] 38 (0, 0)) (by (with_reducible repeat (first | refine blk_drewN ?_ _ | refine blk_drew ?_ | refine blk_alloc ?_ _)); exact BK148.out) hb); have n3_ := Aside0.mk (below_step (by repeat (first | (with_reducible first | exact HB.out | apply below_alloc | apply pw_below_drewN | apply below_drew1 | refine below_set ?_ GE147.out | refine below_set ?_ GE148.out) | exact HB.out)) hb); clear BK147; clear BK148; clear HB; have HO152 := n0_; have BK147 := n1_; have BK148 := n2_; have HB := n3_; clear n0_ n1_ n2_ n3_; (try clear hb); (try clear hb2); (try clear hk); (try clear hi); (try clear ho0)))
        (try simp only [Act.put, List.setIfInBounds_toArray, List.set_cons_zero, List.set_cons_succ])
        go_cut [] (fun wc => ∃ (kq : Nat), Aside0 (quartermasterlaw21_ReqBack.j1 kq t153 a0_0 a0_1 a0_2 a0_3 a0_4 a0_5 a0_6 a0_7 a0_8 l0_9 a1_0 a1_1 a1_2 l1_3 l1_4 = some r) ∧ Aside0 (kq ≤ kj3) ∧ Aside0 (wc.heap[gb147]? = some (.cells #[.int .i64 a0_0, .int .i64 a0_1, .int .i64 a0_2, .int .i64 a0_3, .int .i64 a0_4, .int .i64 a0_5, .int .i64 a0_6, .int .i64 a0_7, .int .i64 a0_8, (.slice A0_9 l0_9.length c0_9)] 26 (0, 0))) ∧ Aside0 (wc.heap[gb148]? = some (.cells #[.int .i64 a1_0, .int .i64 a1_1, .int .i64 a1_2, (.slice A1_3 l1_3.length c1_3), (.slice A1_4 l1_4.length c1_4)] 38 (0, 0))) ∧ Aside0 (Below w.heap.size w wc))
        case first =>
          have H := HC21.out
          clear HC21
          by_cases c25 : t153 = 0
          · rw [if_pos c25] at H
            have c25b0 : (t153 == 0) = true := beq_iff_eq.mpr c25
            have c25b1 : (t153 != 0) = false := bne_eq_false_iff_eq.mpr c25
            clear c25
            (first | rw [c25b0] | (simp only [i64_w, i32_w]; rw [c25b0]) | skip)
            replace H := Option.bind_eq_some_iff.mp H
            obtain ⟨⟨t154, t155, t156, t157, t158, t159, t160, t161, t162, t163, t166⟩, A260, H⟩ := H
            replace H : ((Pa.quartermasterref21_Reqs.f kj3 a0_0 a0_1 a0_2 a0_3 a0_4 a0_5 a0_6 a0_7 a0_8 l0_9 t154 t155 t156 t157 t158 t159 t160 t161 t162 t163).bind fun t168 => (if t166 = 0 then (if t168 = true then ((req_May.f a0_0 a0_1 a0_2 a0_3 a0_4 a0_5 a0_6 a0_7 a0_8 l0_9).bind fun t169 => (if t169 = true then (quartermasterlaw21_ReqBack.j1 kj3 t153 a0_0 a0_1 a0_2 a0_3 a0_4 a0_5 a0_6 a0_7 a0_8 l0_9 a1_0 a1_1 a1_2 l1_3 l1_4) else (none))) else (none)) else (none))) = some r := H
            have A26 := Aside0.mk A260
            clear A260
            replace H := Option.bind_eq_some_iff.mp H
            obtain ⟨t168, A270, H⟩ := H
            replace H : (if t166 = 0 then (if t168 = true then ((req_May.f a0_0 a0_1 a0_2 a0_3 a0_4 a0_5 a0_6 a0_7 a0_8 l0_9).bind fun t169 => (if t169 = true then (quartermasterlaw21_ReqBack.j1 kj3 t153 a0_0 a0_1 a0_2 a0_3 a0_4 a0_5 a0_6 a0_7 a0_8 l0_9 a1_0 a1_1 a1_2 l1_3 l1_4) else (none))) else (none)) else (none)) = some r := H
            have A27 := Aside0.mk A270
            clear A270
            by_cases c28 : t166 = 0
            · rw [if_pos c28] at H
              have c28b0 : (t166 == 0) = true := beq_iff_eq.mpr c28
              have c28b1 : (t166 != 0) = false := bne_eq_false_iff_eq.mpr c28
              clear c28
              by_cases c29 : t168 = true
              · subst c29
                have H1 : ((req_May.f a0_0 a0_1 a0_2 a0_3 a0_4 a0_5 a0_6 a0_7 a0_8 l0_9).bind fun t169 => (if t169 = true then (quartermasterlaw21_ReqBack.j1 kj3 t153 a0_0 a0_1 a0_2 a0_3 a0_4 a0_5 a0_6 a0_7 a0_8 l0_9 a1_0 a1_1 a1_2 l1_3 l1_4) else (none))) = some r := by rw [if_pos rfl] at H; exact H
                clear H
                have H := H1
                clear H1
                replace H := Option.bind_eq_some_iff.mp H
                obtain ⟨t169, A300, H⟩ := H
                replace H : (if t169 = true then (quartermasterlaw21_ReqBack.j1 kj3 t153 a0_0 a0_1 a0_2 a0_3 a0_4 a0_5 a0_6 a0_7 a0_8 l0_9 a1_0 a1_1 a1_2 l1_3 l1_4) else (none)) = some r := H
                have A30 := Aside0.mk A300
                clear A300
                by_cases c31 : t169 = true
                · subst c31
                  have H1 : (quartermasterlaw21_ReqBack.j1 kj3 t153 a0_0 a0_1 a0_2 a0_3 a0_4 a0_5 a0_6 a0_7 a0_8 l0_9 a1_0 a1_1 a1_2 l1_3 l1_4) = some r := by rw [if_pos rfl] at H; exact H
                  clear H
                  have H := H1
                  clear H1
                  have H' := Aside0.mk H
                  clear H
                  obtain ⟨Ao32, co32, eo32⟩ := Kd.R_slice HO152.out
                  subst eo32
                  go_wp2_with (first | ((with_reducible refine gate_callee (f := 9) rfl ?_); refine goesL_ (some 47) rfl rfl Try.func9 (by kernel_rfl) rfl #[.slice Ao32 t150.length co32] rfl (by (try simp only [List.map_toArray, List.map_cons, List.map_nil]); first | done | rfl | (simp only [List.length_drop, List.length_take]; rfl)) ?_; (with_reducible refine (req_Decode.calls _ _ t150 t154 t155 t156 t157 t158 t159 t160 t161 t162 t163 t166 _ ?side1 ?side2 A26.out).mono ?_); (case side1 => repeat (first | exact (Kd.R_reads' HO152.out).2.2 | (with_reducible refine Kd.C_alloc ?_ _) | (with_reducible refine Kd.C_drewN ?_ _) | (with_reducible refine Kd.C_drew ?_))); (case side2 => exact (Kd.R_reads' HO152.out).2.1); rintro e w33 ⟨v164, rfl, ho0, hb⟩; refine ⟨_, rfl, ?_⟩; have n0_ := Aside0.mk (Kd.R_below (by (with_reducible repeat (first | apply Kd.R_alloc | apply Kd.R_drewN | apply Kd.R_drew)); exact HO152.out) hb); have n1_ := Aside0.mk (Kd.R_lower ho0 (below_size (by repeat (first | (with_reducible first | exact HB.out | apply below_alloc | apply pw_below_drewN | apply below_drew1 | refine below_set ?_ GE147.out | refine below_set ?_ GE148.out) | exact HB.out)))); have n2_ := Aside0.mk (blk_below (g := gb147) (o := .cells #[.int .i64 a0_0, .int .i64 a0_1, .int .i64 a0_2, .int .i64 a0_3, .int .i64 a0_4, .int .i64 a0_5, .int .i64 a0_6, .int .i64 a0_7, .int .i64 a0_8, .slice A0_9 l0_9.length c0_9] 26 (0, 0)) (by (with_reducible repeat (first | refine blk_drewN ?_ _ | refine blk_drew ?_ | refine blk_alloc ?_ _)); exact BK147.out) hb); have n3_ := Aside0.mk (blk_below (g := gb148) (o := .cells #[.int .i64 a1_0, .int .i64 a1_1, .int .i64 a1_2, .slice A1_3 l1_3.length c1_3, .slice A1_4 l1_4.length c1_4] 38 (0, 0)) (by (with_reducible repeat (first | refine blk_drewN ?_ _ | refine blk_drew ?_ | refine blk_alloc ?_ _)); exact BK148.out) hb); have n4_ := Aside0.mk (below_step (by repeat (first | (with_reducible first | exact HB.out | apply below_alloc | apply pw_below_drewN | apply below_drew1 | refine below_set ?_ GE147.out | refine below_set ?_ GE148.out) | exact HB.out)) hb); clear HO152; clear BK147; clear BK148; clear HB; have HO152 := n0_; have HO165 := n1_; have BK147 := n2_; have BK148 := n3_; have HB := n4_; clear n0_ n1_ n2_ n3_ n4_; (try clear hb); (try clear hb2); (try clear hk); (try clear hi); (try clear ho0)) | ((with_reducible refine gate_dst (N := 8) rfl ?_); (try (refine gate_guard (by rfl) ?_; dsimp only)); refine box_event ?hg (N := 8) ?hd (cs := #[.int .i64 0, .int .i64 0, .int .i64 0, .int .i64 0, .int .i64 0, .int .i64 0, .int .i64 0, .int .i64 0, .int .i64 0, .slice none 0 0]) (t := 26) ?hr ?_; (case hd => rfl); (case hg => rfl); (case hr => first | (go_simp; done) | (go_simp; rfl)); intro gb167 hg w34 hbox hb; have n0_ := Aside0.mk (Kd.R_below (by (with_reducible repeat (first | apply Kd.R_alloc | apply Kd.R_drewN | apply Kd.R_drew)); exact HO152.out) hb); have n1_ := Aside0.mk (Kd.R_below (by (with_reducible repeat (first | apply Kd.R_alloc | apply Kd.R_drewN | apply Kd.R_drew)); exact HO165.out) hb); have n2_ := Aside0.mk (blk_below (g := gb147) (o := .cells #[.int .i64 a0_0, .int .i64 a0_1, .int .i64 a0_2, .int .i64 a0_3, .int .i64 a0_4, .int .i64 a0_5, .int .i64 a0_6, .int .i64 a0_7, .int .i64 a0_8, .slice A0_9 l0_9.length c0_9] 26 (0, 0)) (by (with_reducible repeat (first | refine blk_drewN ?_ _ | refine blk_drew ?_ | refine blk_alloc ?_ _)); exact BK147.out) hb); have n3_ := Aside0.mk (blk_below (g := gb148) (o := .cells #[.int .i64 a1_0, .int .i64 a1_1, .int .i64 a1_2, .slice A1_3 l1_3.length c1_3, .slice A1_4 l1_4.length c1_4] 38 (0, 0)) (by (with_reducible repeat (first | refine blk_drewN ?_ _ | refine blk_drew ?_ | refine blk_alloc ?_ _)); exact BK148.out) hb); have n4_ := Aside0.mk (below_step (by repeat (first | (with_reducible first | exact HB.out | apply below_alloc | apply pw_below_drewN | apply below_drew1 | refine below_set ?_ GE147.out | refine below_set ?_ GE148.out) | exact HB.out)) hb); have n5_ := Aside0.mk (hbox); have n6_ := Aside0.mk ((by rw [hg]; exact (below_size (by repeat (first | (with_reducible first | exact HB.out | apply below_alloc | apply pw_below_drewN | apply below_drew1 | refine below_set ?_ GE147.out | refine below_set ?_ GE148.out) | exact HB.out))) : w.heap.size ≤ gb167)); have n7_ := Aside0.mk ((by rw [hg]; exact (below_size (by repeat (first | (with_reducible first | exact HB.out | apply below_alloc | apply pw_below_drewN | apply below_drew1 | refine below_set ?_ GE147.out | refine below_set ?_ GE148.out) | exact HB.out))) : w.heap.size ≤ gb167)); have n8_ := Aside0.mk ((by rw [hg]; exact Nat.ne_of_lt (blk_lt (g := gb147) (o := .cells #[.int .i64 a0_0, .int .i64 a0_1, .int .i64 a0_2, .int .i64 a0_3, .int .i64 a0_4, .int .i64 a0_5, .int .i64 a0_6, .int .i64 a0_7, .int .i64 a0_8, .slice A0_9 l0_9.length c0_9] 26 (0, 0)) (by (with_reducible repeat (first | refine blk_drewN ?_ _ | refine blk_drew ?_ | refine blk_alloc ?_ _)); exact BK147.out)) : gb147 ≠ gb167)); have n9_ := Aside0.mk ((by rw [hg]; exact Nat.ne_of_gt (blk_lt (g := gb147) (o := .cells #[.int .i64 a0_0, .int .i64 a0_1, .int .i64 a0_2, .int .i64 a0_3, .int .i64 a0_4, .int .i64 a0_5, .int .i64 a0_6, .int .i64 a0_7, .int .i64 a0_8, .slice A0_9 l0_9.length c0_9] 26 (0, 0)) (by (with_reducible repeat (first | refine blk_drewN ?_ _ | refine blk_drew ?_ | refine blk_alloc ?_ _)); exact BK147.out)) : gb167 ≠ gb147)); have n10_ := Aside0.mk ((by rw [hg]; exact Nat.ne_of_lt (blk_lt (g := gb148) (o := .cells #[.int .i64 a1_0, .int .i64 a1_1, .int .i64 a1_2, .slice A1_3 l1_3.length c1_3, .slice A1_4 l1_4.length c1_4] 38 (0, 0)) (by (with_reducible repeat (first | refine blk_drewN ?_ _ | refine blk_drew ?_ | refine blk_alloc ?_ _)); exact BK148.out)) : gb148 ≠ gb167)); have n11_ := Aside0.mk ((by rw [hg]; exact Nat.ne_of_gt (blk_lt (g := gb148) (o := .cells #[.int .i64 a1_0, .int .i64 a1_1, .int .i64 a1_2, .slice A1_3 l1_3.length c1_3, .slice A1_4 l1_4.length c1_4] 38 (0, 0)) (by (with_reducible repeat (first | refine blk_drewN ?_ _ | refine blk_drew ?_ | refine blk_alloc ?_ _)); exact BK148.out)) : gb167 ≠ gb148)); clear HO152; clear HO165; clear BK147; clear BK148; clear HB; have HO152 := n0_; have HO165 := n1_; have BK147 := n2_; have BK148 := n3_; have HB := n4_; have BK167 := n5_; have GW167 := n6_; have GE167 := n7_; have NB147_167 := n8_; have NB167_147 := n9_; have NB148_167 := n10_; have NB167_148 := n11_; clear n0_ n1_ n2_ n3_ n4_ n5_ n6_ n7_ n8_ n9_ n10_ n11_; clear hb hbox hg; have hnb35 := NB167_147.out; have hnc35 := NB147_167.out; have hnb36 := NB167_148.out; have hnc36 := NB148_167.out; have hcz37_0 : w34.cell? ⟨gb167, 0, none⟩ = some (.int .i64 0) := (blk_cell BK167.out 0).trans rfl; have hcz37_1 : w34.cell? ⟨gb167, 1, none⟩ = some (.int .i64 0) := (blk_cell BK167.out 1).trans rfl; have hcz37_2 : w34.cell? ⟨gb167, 2, none⟩ = some (.int .i64 0) := (blk_cell BK167.out 2).trans rfl; have hcz37_3 : w34.cell? ⟨gb167, 3, none⟩ = some (.int .i64 0) := (blk_cell BK167.out 3).trans rfl; have hcz37_4 : w34.cell? ⟨gb167, 4, none⟩ = some (.int .i64 0) := (blk_cell BK167.out 4).trans rfl; have hcz37_5 : w34.cell? ⟨gb167, 5, none⟩ = some (.int .i64 0) := (blk_cell BK167.out 5).trans rfl; have hcz37_6 : w34.cell? ⟨gb167, 6, none⟩ = some (.int .i64 0) := (blk_cell BK167.out 6).trans rfl; have hcz37_7 : w34.cell? ⟨gb167, 7, none⟩ = some (.int .i64 0) := (blk_cell BK167.out 7).trans rfl; have hcz37_8 : w34.cell? ⟨gb167, 8, none⟩ = some (.int .i64 0) := (blk_cell BK167.out 8).trans rfl; have hcz37_9 : w34.cell? ⟨gb167, 9, none⟩ = some (.slice none 0 0) := (blk_cell BK167.out 9).trans rfl; have hfz37_0 := blk_frozen BK167.out 0; have hfz37_1 := blk_frozen BK167.out 1; have hfz37_2 := blk_frozen BK167.out 2; have hfz37_3 := blk_frozen BK167.out 3; have hfz37_4 := blk_frozen BK167.out 4; have hfz37_5 := blk_frozen BK167.out 5; have hfz37_6 := blk_frozen BK167.out 6; have hfz37_7 := blk_frozen BK167.out 7; have hfz37_8 := blk_frozen BK167.out 8; have hfz37_9 := blk_frozen BK167.out 9; obtain ⟨Ao38, co38, eo38⟩ := Kd.R_slice HO165.out; subst eo38; have hnb39 := NB147_148.out; have hnc39 := NB148_147.out; have hcz40_0 : w34.cell? ⟨gb147, 0, none⟩ = some (.int .i64 a0_0) := (blk_cell BK147.out 0).trans rfl; have hcz40_1 : w34.cell? ⟨gb147, 1, none⟩ = some (.int .i64 a0_1) := (blk_cell BK147.out 1).trans rfl; have hcz40_2 : w34.cell? ⟨gb147, 2, none⟩ = some (.int .i64 a0_2) := (blk_cell BK147.out 2).trans rfl; have hcz40_3 : w34.cell? ⟨gb147, 3, none⟩ = some (.int .i64 a0_3) := (blk_cell BK147.out 3).trans rfl; have hcz40_4 : w34.cell? ⟨gb147, 4, none⟩ = some (.int .i64 a0_4) := (blk_cell BK147.out 4).trans rfl; have hcz40_5 : w34.cell? ⟨gb147, 5, none⟩ = some (.int .i64 a0_5) := (blk_cell BK147.out 5).trans rfl; have hcz40_6 : w34.cell? ⟨gb147, 6, none⟩ = some (.int .i64 a0_6) := (blk_cell BK147.out 6).trans rfl; have hcz40_7 : w34.cell? ⟨gb147, 7, none⟩ = some (.int .i64 a0_7) := (blk_cell BK147.out 7).trans rfl; have hcz40_8 : w34.cell? ⟨gb147, 8, none⟩ = some (.int .i64 a0_8) := (blk_cell BK147.out 8).trans rfl; have hcz40_9 : w34.cell? ⟨gb147, 9, none⟩ = some (.slice A0_9 l0_9.length c0_9) := (blk_cell BK147.out 9).trans rfl; have hfz40_0 := blk_frozen BK147.out 0; have hfz40_1 := blk_frozen BK147.out 1; have hfz40_2 := blk_frozen BK147.out 2; have hfz40_3 := blk_frozen BK147.out 3; have hfz40_4 := blk_frozen BK147.out 4; have hfz40_5 := blk_frozen BK147.out 5; have hfz40_6 := blk_frozen BK147.out 6; have hfz40_7 := blk_frozen BK147.out 7; have hfz40_8 := blk_frozen BK147.out 8; have hfz40_9 := blk_frozen BK147.out 9) | ((with_reducible refine gate_callee (f := 10) rfl ?_); refine goesL_ (some 52) rfl rfl Try.func10 (by kernel_rfl) rfl #[.agg #[.int .i64 a0_0, .int .i64 a0_1, .int .i64 a0_2, .int .i64 a0_3, .int .i64 a0_4, .int .i64 a0_5, .int .i64 a0_6, .int .i64 a0_7, .int .i64 a0_8, .slice A0_9 l0_9.length c0_9], .agg #[.int .i64 t154, .int .i64 t155, .int .i64 t156, .int .i64 t157, .int .i64 t158, .int .i64 t159, .int .i64 t160, .int .i64 t161, .int .i64 t162, .slice Ao38 t163.length co38]] rfl (by (try simp only [List.map_toArray, List.map_cons, List.map_nil]); first | done | rfl | (simp only [List.length_drop, List.length_take]; rfl)) ?_; (with_reducible refine (Pa.quartermasterref21_Reqs.calls kj3 a0_0 a0_1 a0_2 a0_3 a0_4 a0_5 a0_6 a0_7 a0_8 _ _ l0_9 t154 t155 t156 t157 t158 t159 t160 t161 t162 _ _ t163 true _ ?side1 ?side2 ?side3 ?side4 A27.out).mono ?_); (case side1 => exact Kd.C_below HR0_9.out (by repeat (first | (with_reducible first | exact HB.out | apply below_alloc | apply pw_below_drewN | apply below_drew1 | refine below_set ?_ GE147.out | refine below_set ?_ GE148.out | refine below_set ?_ GE167.out) | exact HB.out))); (case side2 => exact HC0_9.out); (case side3 => refine (Kd.R_reads' (e := 93) (base := w.heap.size) (ok := fun k_ => True) (n := t163.length) (c := co38) ?_).2.2; exact (by (with_reducible repeat (first | apply Kd.R_alloc | apply Kd.R_drewN | apply Kd.R_drew)); exact (Kd.R_mono (Kd.R_far (p := ⟨gb167, 9, none⟩) (Kd.R_far (p := ⟨gb167, 8, none⟩) (Kd.R_far (p := ⟨gb167, 7, none⟩) (Kd.R_far (p := ⟨gb167, 6, none⟩) (Kd.R_far (p := ⟨gb167, 5, none⟩) (Kd.R_far (p := ⟨gb167, 4, none⟩) (Kd.R_far (p := ⟨gb167, 3, none⟩) (Kd.R_far (p := ⟨gb167, 2, none⟩) (Kd.R_far (p := ⟨gb167, 1, none⟩) (Kd.R_far (p := ⟨gb167, 0, none⟩) (Kd.R_types HO165.out BK167.out (by decide)) (fun _ hk => hk.2) (.int .i64 t154)) (fun _ hk => hk.2) (.int .i64 t155)) (fun _ hk => hk.2) (.int .i64 t156)) (fun _ hk => hk.2) (.int .i64 t157)) (fun _ hk => hk.2) (.int .i64 t158)) (fun _ hk => hk.2) (.int .i64 t159)) (fun _ hk => hk.2) (.int .i64 t160)) (fun _ hk => hk.2) (.int .i64 t161)) (fun _ hk => hk.2) (.int .i64 t162)) (fun _ hk => hk.2) (.slice Ao38 t163.length co38)) (fun _ h_ => h_.1)))); (case side4 => exact (Kd.R_reads' HO165.out).2.1); rintro e w41 ⟨rfl, hb⟩; refine ⟨_, rfl, ?_⟩; have n0_ := Aside0.mk (Kd.R_below (by (with_reducible repeat (first | apply Kd.R_alloc | apply Kd.R_drewN | apply Kd.R_drew)); exact (Kd.R_mono (Kd.R_far (p := ⟨gb167, 9, none⟩) (Kd.R_far (p := ⟨gb167, 8, none⟩) (Kd.R_far (p := ⟨gb167, 7, none⟩) (Kd.R_far (p := ⟨gb167, 6, none⟩) (Kd.R_far (p := ⟨gb167, 5, none⟩) (Kd.R_far (p := ⟨gb167, 4, none⟩) (Kd.R_far (p := ⟨gb167, 3, none⟩) (Kd.R_far (p := ⟨gb167, 2, none⟩) (Kd.R_far (p := ⟨gb167, 1, none⟩) (Kd.R_far (p := ⟨gb167, 0, none⟩) (Kd.R_types HO152.out BK167.out (by decide)) (fun _ hk => hk.2) (.int .i64 t154)) (fun _ hk => hk.2) (.int .i64 t155)) (fun _ hk => hk.2) (.int .i64 t156)) (fun _ hk => hk.2) (.int .i64 t157)) (fun _ hk => hk.2) (.int .i64 t158)) (fun _ hk => hk.2) (.int .i64 t159)) (fun _ hk => hk.2) (.int .i64 t160)) (fun _ hk => hk.2) (.int .i64 t161)) (fun _ hk => hk.2) (.int .i64 t162)) (fun _ hk => hk.2) (.slice Ao38 t163.length co38)) (fun _ h_ => h_.1))) hb); have n1_ := Aside0.mk (Kd.R_below (by (with_reducible repeat (first | apply Kd.R_alloc | apply Kd.R_drewN | apply Kd.R_drew)); exact (Kd.R_mono (Kd.R_far (p := ⟨gb167, 9, none⟩) (Kd.R_far (p := ⟨gb167, 8, none⟩) (Kd.R_far (p := ⟨gb167, 7, none⟩) (Kd.R_far (p := ⟨gb167, 6, none⟩) (Kd.R_far (p := ⟨gb167, 5, none⟩) (Kd.R_far (p := ⟨gb167, 4, none⟩) (Kd.R_far (p := ⟨gb167, 3, none⟩) (Kd.R_far (p := ⟨gb167, 2, none⟩) (Kd.R_far (p := ⟨gb167, 1, none⟩) (Kd.R_far (p := ⟨gb167, 0, none⟩) (Kd.R_types HO165.out BK167.out (by decide)) (fun _ hk => hk.2) (.int .i64 t154)) (fun _ hk => hk.2) (.int .i64 t155)) (fun _ hk => hk.2) (.int .i64 t156)) (fun _ hk => hk.2) (.int .i64 t157)) (fun _ hk => hk.2) (.int .i64 t158)) (fun _ hk => hk.2) (.int .i64 t159)) (fun _ hk => hk.2) (.int .i64 t160)) (fun _ hk => hk.2) (.int .i64 t161)) (fun _ hk => hk.2) (.int .i64 t162)) (fun _ hk => hk.2) (.slice Ao38 t163.length co38)) (fun _ h_ => h_.1))) hb); have n2_ := Aside0.mk (blk_below (g := gb147) (o := .cells #[.int .i64 a0_0, .int .i64 a0_1, .int .i64 a0_2, .int .i64 a0_3, .int .i64 a0_4, .int .i64 a0_5, .int .i64 a0_6, .int .i64 a0_7, .int .i64 a0_8, .slice A0_9 l0_9.length c0_9] 26 (0, 0)) (by (with_reducible repeat (first | refine blk_drewN ?_ _ | refine blk_drew ?_ | refine blk_alloc ?_ _)); refine blk_far ?_ NB147_167.out _; (with_reducible repeat (first | refine blk_drewN ?_ _ | refine blk_drew ?_ | refine blk_alloc ?_ _)); refine blk_far ?_ NB147_167.out _; (with_reducible repeat (first | refine blk_drewN ?_ _ | refine blk_drew ?_ | refine blk_alloc ?_ _)); refine blk_far ?_ NB147_167.out _; (with_reducible repeat (first | refine blk_drewN ?_ _ | refine blk_drew ?_ | refine blk_alloc ?_ _)); refine blk_far ?_ NB147_167.out _; (with_reducible repeat (first | refine blk_drewN ?_ _ | refine blk_drew ?_ | refine blk_alloc ?_ _)); refine blk_far ?_ NB147_167.out _; (with_reducible repeat (first | refine blk_drewN ?_ _ | refine blk_drew ?_ | refine blk_alloc ?_ _)); refine blk_far ?_ NB147_167.out _; (with_reducible repeat (first | refine blk_drewN ?_ _ | refine blk_drew ?_ | refine blk_alloc ?_ _)); refine blk_far ?_ NB147_167.out _; (with_reducible repeat (first | refine blk_drewN ?_ _ | refine blk_drew ?_ | refine blk_alloc ?_ _)); refine blk_far ?_ NB147_167.out _; (with_reducible repeat (first | refine blk_drewN ?_ _ | refine blk_drew ?_ | refine blk_alloc ?_ _)); refine blk_far ?_ NB147_167.out _; (with_reducible repeat (first | refine blk_drewN ?_ _ | refine blk_drew ?_ | refine blk_alloc ?_ _)); refine blk_far ?_ NB147_167.out _; (with_reducible repeat (first | refine blk_drewN ?_ _ | refine blk_drew ?_ | refine blk_alloc ?_ _)); exact BK147.out) hb); have n3_ := Aside0.mk (blk_below (g := gb148) (o := .cells #[.int .i64 a1_0, .int .i64 a1_1, .int .i64 a1_2, .slice A1_3 l1_3.length c1_3, .slice A1_4 l1_4.length c1_4] 38 (0, 0)) (by (with_reducible repeat (first | refine blk_drewN ?_ _ | refine blk_drew ?_ | refine blk_alloc ?_ _)); refine blk_far ?_ NB148_167.out _; (with_reducible repeat (first | refine blk_drewN ?_ _ | refine blk_drew ?_ | refine blk_alloc ?_ _)); refine blk_far ?_ NB148_167.out _; (with_reducible repeat (first | refine blk_drewN ?_ _ | refine blk_drew ?_ | refine blk_alloc ?_ _)); refine blk_far ?_ NB148_167.out _; (with_reducible repeat (first | refine blk_drewN ?_ _ | refine blk_drew ?_ | refine blk_alloc ?_ _)); refine blk_far ?_ NB148_167.out _; (with_reducible repeat (first | refine blk_drewN ?_ _ | refine blk_drew ?_ | refine blk_alloc ?_ _)); refine blk_far ?_ NB148_167.out _; (with_reducible repeat (first | refine blk_drewN ?_ _ | refine blk_drew ?_ | refine blk_alloc ?_ _)); refine blk_far ?_ NB148_167.out _; (with_reducible repeat (first | refine blk_drewN ?_ _ | refine blk_drew ?_ | refine blk_alloc ?_ _)); refine blk_far ?_ NB148_167.out _; (with_reducible repeat (first | refine blk_drewN ?_ _ | refine blk_drew ?_ | refine blk_alloc ?_ _)); refine blk_far ?_ NB148_167.out _; (with_reducible repeat (first | refine blk_drewN ?_ _ | refine blk_drew ?_ | refine blk_alloc ?_ _)); refine blk_far ?_ NB148_167.out _; (with_reducible repeat (first | refine blk_drewN ?_ _ | refine blk_drew ?_ | refine blk_alloc ?_ _)); refine blk_far ?_ NB148_167.out _; (with_reducible repeat (first | refine blk_drewN ?_ _ | refine blk_drew ?_ | refine blk_alloc ?_ _)); exact BK148.out) hb); have n4_ := Aside0.mk (blk_below (g := gb167) (o := .cells #[.int .i64 t154, .int .i64 t155, .int .i64 t156, .int .i64 t157, .int .i64 t158, .int .i64 t159, .int .i64 t160, .int .i64 t161, .int .i64 t162, .slice Ao38 t163.length co38] 26 (0, 0)) (by (with_reducible repeat (first | refine blk_drewN ?_ _ | refine blk_drew ?_ | refine blk_alloc ?_ _)); refine blk_put (cs := #[.int .i64 t154, .int .i64 t155, .int .i64 t156, .int .i64 t157, .int .i64 t158, .int .i64 t159, .int .i64 t160, .int .i64 t161, .int .i64 t162, .slice none 0 0]) ?_ 9 _ rfl; (with_reducible repeat (first | refine blk_drewN ?_ _ | refine blk_drew ?_ | refine blk_alloc ?_ _)); refine blk_put (cs := #[.int .i64 t154, .int .i64 t155, .int .i64 t156, .int .i64 t157, .int .i64 t158, .int .i64 t159, .int .i64 t160, .int .i64 t161, .int .i64 0, .slice none 0 0]) ?_ 8 _ rfl; (with_reducible repeat (first | refine blk_drewN ?_ _ | refine blk_drew ?_ | refine blk_alloc ?_ _)); refine blk_put (cs := #[.int .i64 t154, .int .i64 t155, .int .i64 t156, .int .i64 t157, .int .i64 t158, .int .i64 t159, .int .i64 t160, .int .i64 0, .int .i64 0, .slice none 0 0]) ?_ 7 _ rfl; (with_reducible repeat (first | refine blk_drewN ?_ _ | refine blk_drew ?_ | refine blk_alloc ?_ _)); refine blk_put (cs := #[.int .i64 t154, .int .i64 t155, .int .i64 t156, .int .i64 t157, .int .i64 t158, .int .i64 t159, .int .i64 0, .int .i64 0, .int .i64 0, .slice none 0 0]) ?_ 6 _ rfl; (with_reducible repeat (first | refine blk_drewN ?_ _ | refine blk_drew ?_ | refine blk_alloc ?_ _)); refine blk_put (cs := #[.int .i64 t154, .int .i64 t155, .int .i64 t156, .int .i64 t157, .int .i64 t158, .int .i64 0, .int .i64 0, .int .i64 0, .int .i64 0, .slice none 0 0]) ?_ 5 _ rfl; (with_reducible repeat (first | refine blk_drewN ?_ _ | refine blk_drew ?_ | refine blk_alloc ?_ _)); refine blk_put (cs := #[.int .i64 t154, .int .i64 t155, .int .i64 t156, .int .i64 t157, .int .i64 0, .int .i64 0, .int .i64 0, .int .i64 0, .int .i64 0, .slice none 0 0]) ?_ 4 _ rfl; (with_reducible repeat (first | refine blk_drewN ?_ _ | refine blk_drew ?_ | refine blk_alloc ?_ _)); refine blk_put (cs := #[.int .i64 t154, .int .i64 t155, .int .i64 t156, .int .i64 0, .int .i64 0, .int .i64 0, .int .i64 0, .int .i64 0, .int .i64 0, .slice none 0 0]) ?_ 3 _ rfl; (with_reducible repeat (first | refine blk_drewN ?_ _ | refine blk_drew ?_ | refine blk_alloc ?_ _)); refine blk_put (cs := #[.int .i64 t154, .int .i64 t155, .int .i64 0, .int .i64 0, .int .i64 0, .int .i64 0, .int .i64 0, .int .i64 0, .int .i64 0, .slice none 0 0]) ?_ 2 _ rfl; (with_reducible repeat (first | refine blk_drewN ?_ _ | refine blk_drew ?_ | refine blk_alloc ?_ _)); refine blk_put (cs := #[.int .i64 t154, .int .i64 0, .int .i64 0, .int .i64 0, .int .i64 0, .int .i64 0, .int .i64 0, .int .i64 0, .int .i64 0, .slice none 0 0]) ?_ 1 _ rfl; (with_reducible repeat (first | refine blk_drewN ?_ _ | refine blk_drew ?_ | refine blk_alloc ?_ _)); refine blk_put (cs := #[.int .i64 0, .int .i64 0, .int .i64 0, .int .i64 0, .int .i64 0, .int .i64 0, .int .i64 0, .int .i64 0, .int .i64 0, .slice none 0 0]) ?_ 0 _ rfl; (with_reducible repeat (first | refine blk_drewN ?_ _ | refine blk_drew ?_ | refine blk_alloc ?_ _)); exact BK167.out) hb); have n5_ := Aside0.mk (below_step (by repeat (first | (with_reducible first | exact HB.out | apply below_alloc | apply pw_below_drewN | apply below_drew1 | refine below_set ?_ GE147.out | refine below_set ?_ GE148.out | refine below_set ?_ GE167.out) | exact HB.out)) hb); clear HO152; clear HO165; clear BK147; clear BK148; clear BK167; clear HB; have HO152 := n0_; have HO165 := n1_; have BK147 := n2_; have BK148 := n3_; have BK167 := n4_; have HB := n5_; clear n0_ n1_ n2_ n3_ n4_ n5_; (try clear hb); (try clear hb2); (try clear hk); (try clear hi); have hcz42_0 : w41.cell? ⟨gb147, 0, none⟩ = some (.int .i64 a0_0) := (blk_cell BK147.out 0).trans rfl; have hcz42_1 : w41.cell? ⟨gb147, 1, none⟩ = some (.int .i64 a0_1) := (blk_cell BK147.out 1).trans rfl; have hcz42_2 : w41.cell? ⟨gb147, 2, none⟩ = some (.int .i64 a0_2) := (blk_cell BK147.out 2).trans rfl; have hcz42_3 : w41.cell? ⟨gb147, 3, none⟩ = some (.int .i64 a0_3) := (blk_cell BK147.out 3).trans rfl; have hcz42_4 : w41.cell? ⟨gb147, 4, none⟩ = some (.int .i64 a0_4) := (blk_cell BK147.out 4).trans rfl; have hcz42_5 : w41.cell? ⟨gb147, 5, none⟩ = some (.int .i64 a0_5) := (blk_cell BK147.out 5).trans rfl; have hcz42_6 : w41.cell? ⟨gb147, 6, none⟩ = some (.int .i64 a0_6) := (blk_cell BK147.out 6).trans rfl; have hcz42_7 : w41.cell? ⟨gb147, 7, none⟩ = some (.int .i64 a0_7) := (blk_cell BK147.out 7).trans rfl; have hcz42_8 : w41.cell? ⟨gb147, 8, none⟩ = some (.int .i64 a0_8) := (blk_cell BK147.out 8).trans rfl; have hcz42_9 : w41.cell? ⟨gb147, 9, none⟩ = some (.slice A0_9 l0_9.length c0_9) := (blk_cell BK147.out 9).trans rfl; have hfz42_0 := blk_frozen BK147.out 0; have hfz42_1 := blk_frozen BK147.out 1; have hfz42_2 := blk_frozen BK147.out 2; have hfz42_3 := blk_frozen BK147.out 3; have hfz42_4 := blk_frozen BK147.out 4; have hfz42_5 := blk_frozen BK147.out 5; have hfz42_6 := blk_frozen BK147.out 6; have hfz42_7 := blk_frozen BK147.out 7; have hfz42_8 := blk_frozen BK147.out 8; have hfz42_9 := blk_frozen BK147.out 9) | (go_at_call 13; (with_reducible refine (req_May.calls a0_0 a0_1 a0_2 a0_3 a0_4 a0_5 a0_6 a0_7 a0_8 _ _ l0_9 true _ ?side1 ?side2 A30.out).mono ?_); (case side1 => repeat (first | exact (Kd.C_below HR0_9.out HB.out) | (with_reducible refine Kd.C_alloc ?_ _) | (with_reducible refine Kd.C_drewN ?_ _) | (with_reducible refine Kd.C_drew ?_))); (case side2 => exact HC0_9.out); rintro e w43 ⟨rfl, hb⟩; have n0_ := Aside0.mk (Kd.R_below (by (with_reducible repeat (first | apply Kd.R_alloc | apply Kd.R_drewN | apply Kd.R_drew)); exact HO152.out) hb); have n1_ := Aside0.mk (Kd.R_below (by (with_reducible repeat (first | apply Kd.R_alloc | apply Kd.R_drewN | apply Kd.R_drew)); exact HO165.out) hb); have n2_ := Aside0.mk (blk_below (g := gb147) (o := .cells #[.int .i64 a0_0, .int .i64 a0_1, .int .i64 a0_2, .int .i64 a0_3, .int .i64 a0_4, .int .i64 a0_5, .int .i64 a0_6, .int .i64 a0_7, .int .i64 a0_8, .slice A0_9 l0_9.length c0_9] 26 (0, 0)) (by (with_reducible repeat (first | refine blk_drewN ?_ _ | refine blk_drew ?_ | refine blk_alloc ?_ _)); exact BK147.out) hb); have n3_ := Aside0.mk (blk_below (g := gb148) (o := .cells #[.int .i64 a1_0, .int .i64 a1_1, .int .i64 a1_2, .slice A1_3 l1_3.length c1_3, .slice A1_4 l1_4.length c1_4] 38 (0, 0)) (by (with_reducible repeat (first | refine blk_drewN ?_ _ | refine blk_drew ?_ | refine blk_alloc ?_ _)); exact BK148.out) hb); have n4_ := Aside0.mk (blk_below (g := gb167) (o := .cells #[.int .i64 t154, .int .i64 t155, .int .i64 t156, .int .i64 t157, .int .i64 t158, .int .i64 t159, .int .i64 t160, .int .i64 t161, .int .i64 t162, .slice Ao38 t163.length co38] 26 (0, 0)) (by (with_reducible repeat (first | refine blk_drewN ?_ _ | refine blk_drew ?_ | refine blk_alloc ?_ _)); exact BK167.out) hb); have n5_ := Aside0.mk (below_step (by repeat (first | (with_reducible first | exact HB.out | apply below_alloc | apply pw_below_drewN | apply below_drew1 | refine below_set ?_ GE147.out | refine below_set ?_ GE148.out | refine below_set ?_ GE167.out) | exact HB.out)) hb); clear HO152; clear HO165; clear BK147; clear BK148; clear BK167; clear HB; have HO152 := n0_; have HO165 := n1_; have BK147 := n2_; have BK148 := n3_; have BK167 := n4_; have HB := n5_; clear n0_ n1_ n2_ n3_ n4_ n5_; (try clear hb); (try clear hb2); (try clear hk); (try clear hi)))
                  go_meet
                  case rel => exact ⟨_, H', ⟨by have := HJ3.out; first | omega | exact Nat.le_refl _⟩, ⟨by (with_reducible repeat (first | refine blk_drewN ?_ _ | refine blk_drew ?_ | refine blk_alloc ?_ _)); exact BK147.out⟩, ⟨by (with_reducible repeat (first | refine blk_drewN ?_ _ | refine blk_drew ?_ | refine blk_alloc ?_ _)); exact BK148.out⟩, ⟨by repeat (first | (with_reducible first | exact HB.out | apply below_alloc | apply pw_below_drewN | apply below_drew1 | refine below_set ?_ GE147.out | refine below_set ?_ GE148.out | refine below_set ?_ GE167.out) | exact HB.out)⟩⟩
                · rw [if_neg c31] at H; exact absurd H (by simp)
              · rw [if_neg c29] at H; exact absurd H (by simp)
            · rw [if_neg c28] at H; exact absurd H (by simp)
          · rw [if_neg c25] at H
            have c25b0 : (t153 == 0) = false := beq_eq_false_iff_ne.mpr c25
            have c25b1 : (t153 != 0) = true := bne_iff_ne.mpr c25
            (first | rw [c25b0] | (simp only [i64_w, i32_w]; rw [c25b0]) | skip)
            have H' := Aside0.mk H
            clear H
            go_wp2
            go_meet
            case rel => exact ⟨_, H', ⟨by have := HJ3.out; first | omega | exact Nat.le_refl _⟩, ⟨by (with_reducible repeat (first | refine blk_drewN ?_ _ | refine blk_drew ?_ | refine blk_alloc ?_ _)); exact BK147.out⟩, ⟨by (with_reducible repeat (first | refine blk_drewN ?_ _ | refine blk_drew ?_ | refine blk_alloc ?_ _)); exact BK148.out⟩, ⟨by repeat (first | (with_reducible first | exact HB.out | apply below_alloc | apply pw_below_drewN | apply below_drew1 | refine below_set ?_ GE147.out | refine below_set ?_ GE148.out) | exact HB.out)⟩⟩
        case rest =>
          clear HC21
          try clear c1
          try clear c2
          try clear p2
          try clear c3
          try clear c4
          try clear c5
          try clear c6
          try clear c7
          try clear c8
          try clear c9
          try clear c9b0
          try clear c9b1
          try clear c10
          try clear c11
          try clear c12
          try clear c12b0
          try clear c12b1
          try clear c13
          try clear c16
          try clear c19
          try clear c22
          try clear c25
          try clear c25b0
          try clear c25b1
          try clear c28
          try clear c28b0
          try clear c28b1
          try clear c29
          try clear c31
          try clear c35
          try clear c36
          try clear c39
          try clear c47
          try clear c48
          try clear c51
          try clear c59
          try clear c60
          try clear c63
          try clear c69
          try clear c70
          try clear c73
          try clear hcz11_0
          try clear hcz11_1
          try clear hcz11_2
          try clear hcz11_3
          try clear hcz11_4
          try clear hcz11_5
          try clear hcz11_6
          try clear hcz11_7
          try clear hcz11_8
          try clear hcz11_9
          try clear hcz14_0
          try clear hcz14_1
          try clear hcz14_2
          try clear hcz14_3
          try clear hcz14_4
          try clear hcz14_5
          try clear hcz14_6
          try clear hcz14_7
          try clear hcz14_8
          try clear hcz14_9
          try clear hcz15_0
          try clear hcz15_1
          try clear hcz15_2
          try clear hcz15_3
          try clear hcz15_4
          try clear hcz17_0
          try clear hcz17_1
          try clear hcz17_2
          try clear hcz17_3
          try clear hcz17_4
          try clear hcz17_5
          try clear hcz17_6
          try clear hcz17_7
          try clear hcz17_8
          try clear hcz17_9
          try clear hcz18_0
          try clear hcz18_1
          try clear hcz18_2
          try clear hcz18_3
          try clear hcz18_4
          try clear hcz23_0
          try clear hcz23_1
          try clear hcz23_2
          try clear hcz23_3
          try clear hcz23_4
          try clear hcz23_5
          try clear hcz23_6
          try clear hcz23_7
          try clear hcz23_8
          try clear hcz23_9
          try clear hcz37_0
          try clear hcz37_1
          try clear hcz37_2
          try clear hcz37_3
          try clear hcz37_4
          try clear hcz37_5
          try clear hcz37_6
          try clear hcz37_7
          try clear hcz37_8
          try clear hcz37_9
          try clear hcz40_0
          try clear hcz40_1
          try clear hcz40_2
          try clear hcz40_3
          try clear hcz40_4
          try clear hcz40_5
          try clear hcz40_6
          try clear hcz40_7
          try clear hcz40_8
          try clear hcz40_9
          try clear hcz42_0
          try clear hcz42_1
          try clear hcz42_2
          try clear hcz42_3
          try clear hcz42_4
          try clear hcz42_5
          try clear hcz42_6
          try clear hcz42_7
          try clear hcz42_8
          try clear hcz42_9
          try clear hcz49_0
          try clear hcz49_1
          try clear hcz49_2
          try clear hcz49_3
          try clear hcz49_4
          try clear hcz49_5
          try clear hcz49_6
          try clear hcz49_7
          try clear hcz49_8
          try clear hcz49_9
          try clear hcz52_0
          try clear hcz52_1
          try clear hcz52_2
          try clear hcz52_3
          try clear hcz52_4
          try clear hcz52_5
          try clear hcz52_6
          try clear hcz52_7
          try clear hcz52_8
          try clear hcz52_9
          try clear hcz54_0
          try clear hcz54_1
          try clear hcz54_2
          try clear hcz54_3
          try clear hcz54_4
          try clear hcz54_5
          try clear hcz54_6
          try clear hcz54_7
          try clear hcz54_8
          try clear hcz54_9
          try clear hcz61_0
          try clear hcz61_1
          try clear hcz61_2
          try clear hcz61_3
          try clear hcz61_4
          try clear hcz61_5
          try clear hcz61_6
          try clear hcz61_7
          try clear hcz61_8
          try clear hcz61_9
          try clear hcz64_0
          try clear hcz64_1
          try clear hcz64_2
          try clear hcz64_3
          try clear hcz64_4
          try clear hcz64_5
          try clear hcz64_6
          try clear hcz64_7
          try clear hcz64_8
          try clear hcz64_9
          try clear hcz71_0
          try clear hcz71_1
          try clear hcz71_2
          try clear hcz71_3
          try clear hcz71_4
          try clear hcz71_5
          try clear hcz71_6
          try clear hcz71_7
          try clear hcz71_8
          try clear hcz71_9
          try clear hcz74_0
          try clear hcz74_1
          try clear hcz74_2
          try clear hcz74_3
          try clear hcz74_4
          try clear hcz74_5
          try clear hcz74_6
          try clear hcz74_7
          try clear hcz74_8
          try clear hcz74_9
          try clear hfz11_0
          try clear hfz11_1
          try clear hfz11_2
          try clear hfz11_3
          try clear hfz11_4
          try clear hfz11_5
          try clear hfz11_6
          try clear hfz11_7
          try clear hfz11_8
          try clear hfz11_9
          try clear hfz14_0
          try clear hfz14_1
          try clear hfz14_2
          try clear hfz14_3
          try clear hfz14_4
          try clear hfz14_5
          try clear hfz14_6
          try clear hfz14_7
          try clear hfz14_8
          try clear hfz14_9
          try clear hfz15_0
          try clear hfz15_1
          try clear hfz15_2
          try clear hfz15_3
          try clear hfz15_4
          try clear hfz17_0
          try clear hfz17_1
          try clear hfz17_2
          try clear hfz17_3
          try clear hfz17_4
          try clear hfz17_5
          try clear hfz17_6
          try clear hfz17_7
          try clear hfz17_8
          try clear hfz17_9
          try clear hfz18_0
          try clear hfz18_1
          try clear hfz18_2
          try clear hfz18_3
          try clear hfz18_4
          try clear hfz23_0
          try clear hfz23_1
          try clear hfz23_2
          try clear hfz23_3
          try clear hfz23_4
          try clear hfz23_5
          try clear hfz23_6
          try clear hfz23_7
          try clear hfz23_8
          try clear hfz23_9
          try clear hfz37_0
          try clear hfz37_1
          try clear hfz37_2
          try clear hfz37_3
          try clear hfz37_4
          try clear hfz37_5
          try clear hfz37_6
          try clear hfz37_7
          try clear hfz37_8
          try clear hfz37_9
          try clear hfz40_0
          try clear hfz40_1
          try clear hfz40_2
          try clear hfz40_3
          try clear hfz40_4
          try clear hfz40_5
          try clear hfz40_6
          try clear hfz40_7
          try clear hfz40_8
          try clear hfz40_9
          try clear hfz42_0
          try clear hfz42_1
          try clear hfz42_2
          try clear hfz42_3
          try clear hfz42_4
          try clear hfz42_5
          try clear hfz42_6
          try clear hfz42_7
          try clear hfz42_8
          try clear hfz42_9
          try clear hfz49_0
          try clear hfz49_1
          try clear hfz49_2
          try clear hfz49_3
          try clear hfz49_4
          try clear hfz49_5
          try clear hfz49_6
          try clear hfz49_7
          try clear hfz49_8
          try clear hfz49_9
          try clear hfz52_0
          try clear hfz52_1
          try clear hfz52_2
          try clear hfz52_3
          try clear hfz52_4
          try clear hfz52_5
          try clear hfz52_6
          try clear hfz52_7
          try clear hfz52_8
          try clear hfz52_9
          try clear hfz54_0
          try clear hfz54_1
          try clear hfz54_2
          try clear hfz54_3
          try clear hfz54_4
          try clear hfz54_5
          try clear hfz54_6
          try clear hfz54_7
          try clear hfz54_8
          try clear hfz54_9
          try clear hfz61_0
          try clear hfz61_1
          try clear hfz61_2
          try clear hfz61_3
          try clear hfz61_4
          try clear hfz61_5
          try clear hfz61_6
          try clear hfz61_7
          try clear hfz61_8
          try clear hfz61_9
          try clear hfz64_0
          try clear hfz64_1
          try clear hfz64_2
          try clear hfz64_3
          try clear hfz64_4
          try clear hfz64_5
          try clear hfz64_6
          try clear hfz64_7
          try clear hfz64_8
          try clear hfz64_9
          try clear hfz71_0
          try clear hfz71_1
          try clear hfz71_2
          try clear hfz71_3
          try clear hfz71_4
          try clear hfz71_5
          try clear hfz71_6
          try clear hfz71_7
          try clear hfz71_8
          try clear hfz71_9
          try clear hfz74_0
          try clear hfz74_1
          try clear hfz74_2
          try clear hfz74_3
          try clear hfz74_4
          try clear hfz74_5
          try clear hfz74_6
          try clear hfz74_7
          try clear hfz74_8
          try clear hfz74_9
          try clear p2
          obtain ⟨kq, HA, HJ20, BK147, BK148, HB⟩ := hcut
          cases kq with
          | zero => exact absurd HA.out (by simp [quartermasterlaw21_ReqBack.j1])
          | succ kj20 =>
            have H := HA.out
            clear HA
            simp only [quartermasterlaw21_ReqBack.j1] at H
            replace H := Option.bind_eq_some_iff.mp H
            obtain ⟨⟨t170, t173⟩, A760, H⟩ := H
            replace H : (if t173 = 0 then ((req_Told.f t170).bind fun bt174 => ((Pa.quartermasterref21_Replies.f kj20 a1_0 a1_1 a1_2 l1_3 l1_4 bt174.1 bt174.2.1 bt174.2.2.1 bt174.2.2.2.1 bt174.2.2.2.2.1).bind fun t185 => (if bt174.2.2.2.2.2 = 0 then (some t185) else (none)))) else ((req_May.f a0_0 a0_1 a0_2 a0_3 a0_4 a0_5 a0_6 a0_7 a0_8 l0_9).bind fun t186 => (if ((t153 == 0) == t186) = true then (if t173 = 1 then (some ((t170.length : Int) == 0)) else (none)) else (none)))) = some r := H
            have A76 := Aside0.mk A760
            clear A760
            by_cases c77 : t173 = 0
            · rw [if_pos c77] at H
              have c77b0 : (t173 == 0) = true := beq_iff_eq.mpr c77
              have c77b1 : (t173 != 0) = false := bne_eq_false_iff_eq.mpr c77
              clear c77
              replace H := Option.bind_eq_some_iff.mp H
              obtain ⟨⟨t174, t175, t176, t177, t180, t183⟩, A780, H⟩ := H
              replace H : ((Pa.quartermasterref21_Replies.f kj20 a1_0 a1_1 a1_2 l1_3 l1_4 t174 t175 t176 t177 t180).bind fun t185 => (if t183 = 0 then (some t185) else (none))) = some r := H
              have A78 := Aside0.mk A780
              clear A780
              replace H := Option.bind_eq_some_iff.mp H
              obtain ⟨t185, A790, H⟩ := H
              replace H : (if t183 = 0 then (some t185) else (none)) = some r := H
              have A79 := Aside0.mk A790
              clear A790
              by_cases c80 : t183 = 0
              · rw [if_pos c80] at H
                have c80b0 : (t183 == 0) = true := beq_iff_eq.mpr c80
                have c80b1 : (t183 != 0) = false := bne_eq_false_iff_eq.mpr c80
                clear c80
                obtain rfl := Option.some.inj H
                have hnb81 := NB148_147.out
                have hnc81 := NB147_148.out
                have hcz82_0 : wc.cell? ⟨gb148, 0, none⟩ = some (.int .i64 a1_0) := (blk_cell BK148.out 0).trans rfl
                have hcz82_1 : wc.cell? ⟨gb148, 1, none⟩ = some (.int .i64 a1_1) := (blk_cell BK148.out 1).trans rfl
                have hcz82_2 : wc.cell? ⟨gb148, 2, none⟩ = some (.int .i64 a1_2) := (blk_cell BK148.out 2).trans rfl
                have hcz82_3 : wc.cell? ⟨gb148, 3, none⟩ = some (.slice A1_3 l1_3.length c1_3) := (blk_cell BK148.out 3).trans rfl
                have hcz82_4 : wc.cell? ⟨gb148, 4, none⟩ = some (.slice A1_4 l1_4.length c1_4) := (blk_cell BK148.out 4).trans rfl
                have hfz82_0 := blk_frozen BK148.out 0
                have hfz82_1 := blk_frozen BK148.out 1
                have hfz82_2 := blk_frozen BK148.out 2
                have hfz82_3 := blk_frozen BK148.out 3
                have hfz82_4 := blk_frozen BK148.out 4
                go_wp2_with (first | ((with_reducible refine gate_callee (f := 14) rfl ?_); refine goesL_ (some 66) rfl rfl Try.func14 (by kernel_rfl) rfl #[.agg #[.int .i64 a1_0, .int .i64 a1_1, .int .i64 a1_2, .slice A1_3 l1_3.length c1_3, .slice A1_4 l1_4.length c1_4]] rfl (by (try simp only [List.map_toArray, List.map_cons, List.map_nil]); first | done | rfl | (simp only [List.length_drop, List.length_take]; rfl)) ?_; (with_reducible refine (req_Answer.calls a1_0 a1_1 a1_2 _ _ l1_3 _ _ l1_4 t170 t173 _ ?side1 ?side2 ?side3 ?side4 A76.out).mono ?_); (case side1 => repeat (first | exact (Kd.C_below HR1_3.out HB.out) | (with_reducible refine Kd.C_alloc ?_ _) | (with_reducible refine Kd.C_drewN ?_ _) | (with_reducible refine Kd.C_drew ?_))); (case side2 => exact HC1_3.out); (case side3 => repeat (first | exact (Kd.C_below HR1_4.out HB.out) | (with_reducible refine Kd.C_alloc ?_ _) | (with_reducible refine Kd.C_drewN ?_ _) | (with_reducible refine Kd.C_drew ?_))); (case side4 => exact HC1_4.out); rintro e w83 ⟨v171, rfl, ho0, hb⟩; refine ⟨_, rfl, ?_⟩; have n0_ := Aside0.mk (Kd.R_lower ho0 (below_size (by repeat (first | (with_reducible first | exact HB.out | apply below_alloc | apply pw_below_drewN | apply below_drew1 | refine below_set ?_ GE147.out | refine below_set ?_ GE148.out) | exact HB.out)))); have n1_ := Aside0.mk (blk_below (g := gb147) (o := .cells #[.int .i64 a0_0, .int .i64 a0_1, .int .i64 a0_2, .int .i64 a0_3, .int .i64 a0_4, .int .i64 a0_5, .int .i64 a0_6, .int .i64 a0_7, .int .i64 a0_8, .slice A0_9 l0_9.length c0_9] 26 (0, 0)) (by (with_reducible repeat (first | refine blk_drewN ?_ _ | refine blk_drew ?_ | refine blk_alloc ?_ _)); exact BK147.out) hb); have n2_ := Aside0.mk (blk_below (g := gb148) (o := .cells #[.int .i64 a1_0, .int .i64 a1_1, .int .i64 a1_2, .slice A1_3 l1_3.length c1_3, .slice A1_4 l1_4.length c1_4] 38 (0, 0)) (by (with_reducible repeat (first | refine blk_drewN ?_ _ | refine blk_drew ?_ | refine blk_alloc ?_ _)); exact BK148.out) hb); have n3_ := Aside0.mk (below_step (by repeat (first | (with_reducible first | exact HB.out | apply below_alloc | apply pw_below_drewN | apply below_drew1 | refine below_set ?_ GE147.out | refine below_set ?_ GE148.out) | exact HB.out)) hb); clear BK147; clear BK148; clear HB; have HO172 := n0_; have BK147 := n1_; have BK148 := n2_; have HB := n3_; clear n0_ n1_ n2_ n3_; (try clear hb); (try clear hb2); (try clear hk); (try clear hi); (try clear ho0); obtain ⟨Ao84, co84, eo84⟩ := Kd.R_slice HO172.out; subst eo84) | ((with_reducible refine gate_callee (f := 20) rfl ?_); refine goesL_ (some 73) rfl rfl Try.func20 (by kernel_rfl) rfl #[.slice Ao84 t170.length co84] rfl (by (try simp only [List.map_toArray, List.map_cons, List.map_nil]); first | done | rfl | (simp only [List.length_drop, List.length_take]; rfl)) ?_; (with_reducible refine (req_Told.calls _ _ t170 t174 t175 t176 t177 t180 t183 _ ?side1 ?side2 A78.out).mono ?_); (case side1 => repeat (first | exact (Kd.R_reads' HO172.out).2.2 | (with_reducible refine Kd.C_alloc ?_ _) | (with_reducible refine Kd.C_drewN ?_ _) | (with_reducible refine Kd.C_drew ?_))); (case side2 => exact (Kd.R_reads' HO172.out).2.1); rintro e w85 ⟨v178, v181, rfl, ho0, ho1, hb⟩; refine ⟨_, rfl, ?_⟩; have n0_ := Aside0.mk (Kd.R_below (by (with_reducible repeat (first | apply Kd.R_alloc | apply Kd.R_drewN | apply Kd.R_drew)); exact HO172.out) hb); have n1_ := Aside0.mk (Kd.R_lower ho0 (below_size (by repeat (first | (with_reducible first | exact HB.out | apply below_alloc | apply pw_below_drewN | apply below_drew1 | refine below_set ?_ GE147.out | refine below_set ?_ GE148.out) | exact HB.out)))); have n2_ := Aside0.mk (Kd.R_lower ho1 (below_size (by repeat (first | (with_reducible first | exact HB.out | apply below_alloc | apply pw_below_drewN | apply below_drew1 | refine below_set ?_ GE147.out | refine below_set ?_ GE148.out) | exact HB.out)))); have n3_ := Aside0.mk (blk_below (g := gb147) (o := .cells #[.int .i64 a0_0, .int .i64 a0_1, .int .i64 a0_2, .int .i64 a0_3, .int .i64 a0_4, .int .i64 a0_5, .int .i64 a0_6, .int .i64 a0_7, .int .i64 a0_8, .slice A0_9 l0_9.length c0_9] 26 (0, 0)) (by (with_reducible repeat (first | refine blk_drewN ?_ _ | refine blk_drew ?_ | refine blk_alloc ?_ _)); exact BK147.out) hb); have n4_ := Aside0.mk (blk_below (g := gb148) (o := .cells #[.int .i64 a1_0, .int .i64 a1_1, .int .i64 a1_2, .slice A1_3 l1_3.length c1_3, .slice A1_4 l1_4.length c1_4] 38 (0, 0)) (by (with_reducible repeat (first | refine blk_drewN ?_ _ | refine blk_drew ?_ | refine blk_alloc ?_ _)); exact BK148.out) hb); have n5_ := Aside0.mk (below_step (by repeat (first | (with_reducible first | exact HB.out | apply below_alloc | apply pw_below_drewN | apply below_drew1 | refine below_set ?_ GE147.out | refine below_set ?_ GE148.out) | exact HB.out)) hb); clear HO172; clear BK147; clear BK148; clear HB; have HO172 := n0_; have HO179 := n1_; have HO182 := n2_; have BK147 := n3_; have BK148 := n4_; have HB := n5_; clear n0_ n1_ n2_ n3_ n4_ n5_; (try clear hb); (try clear hb2); (try clear hk); (try clear hi); (try clear ho0); (try clear ho1)) | ((with_reducible refine gate_dst (N := 13) rfl ?_); (try (refine gate_guard (by rfl) ?_; dsimp only)); refine box_event ?hg (N := 13) ?hd (cs := #[.int .i64 0, .int .i64 0, .int .i64 0, .slice none 0 0, .slice none 0 0]) (t := 38) ?hr ?_; (case hd => rfl); (case hg => rfl); (case hr => first | (go_simp; done) | (go_simp; rfl)); intro gb184 hg w86 hbox hb; have n0_ := Aside0.mk (Kd.R_below (by (with_reducible repeat (first | apply Kd.R_alloc | apply Kd.R_drewN | apply Kd.R_drew)); exact HO172.out) hb); have n1_ := Aside0.mk (Kd.R_below (by (with_reducible repeat (first | apply Kd.R_alloc | apply Kd.R_drewN | apply Kd.R_drew)); exact HO179.out) hb); have n2_ := Aside0.mk (Kd.R_below (by (with_reducible repeat (first | apply Kd.R_alloc | apply Kd.R_drewN | apply Kd.R_drew)); exact HO182.out) hb); have n3_ := Aside0.mk (blk_below (g := gb147) (o := .cells #[.int .i64 a0_0, .int .i64 a0_1, .int .i64 a0_2, .int .i64 a0_3, .int .i64 a0_4, .int .i64 a0_5, .int .i64 a0_6, .int .i64 a0_7, .int .i64 a0_8, .slice A0_9 l0_9.length c0_9] 26 (0, 0)) (by (with_reducible repeat (first | refine blk_drewN ?_ _ | refine blk_drew ?_ | refine blk_alloc ?_ _)); exact BK147.out) hb); have n4_ := Aside0.mk (blk_below (g := gb148) (o := .cells #[.int .i64 a1_0, .int .i64 a1_1, .int .i64 a1_2, .slice A1_3 l1_3.length c1_3, .slice A1_4 l1_4.length c1_4] 38 (0, 0)) (by (with_reducible repeat (first | refine blk_drewN ?_ _ | refine blk_drew ?_ | refine blk_alloc ?_ _)); exact BK148.out) hb); have n5_ := Aside0.mk (below_step (by repeat (first | (with_reducible first | exact HB.out | apply below_alloc | apply pw_below_drewN | apply below_drew1 | refine below_set ?_ GE147.out | refine below_set ?_ GE148.out) | exact HB.out)) hb); have n6_ := Aside0.mk (hbox); have n7_ := Aside0.mk ((by rw [hg]; exact (below_size (by repeat (first | (with_reducible first | exact HB.out | apply below_alloc | apply pw_below_drewN | apply below_drew1 | refine below_set ?_ GE147.out | refine below_set ?_ GE148.out) | exact HB.out))) : w.heap.size ≤ gb184)); have n8_ := Aside0.mk ((by rw [hg]; exact (below_size (by repeat (first | (with_reducible first | exact HB.out | apply below_alloc | apply pw_below_drewN | apply below_drew1 | refine below_set ?_ GE147.out | refine below_set ?_ GE148.out) | exact HB.out))) : w.heap.size ≤ gb184)); have n9_ := Aside0.mk ((by rw [hg]; exact Nat.ne_of_lt (blk_lt (g := gb147) (o := .cells #[.int .i64 a0_0, .int .i64 a0_1, .int .i64 a0_2, .int .i64 a0_3, .int .i64 a0_4, .int .i64 a0_5, .int .i64 a0_6, .int .i64 a0_7, .int .i64 a0_8, .slice A0_9 l0_9.length c0_9] 26 (0, 0)) (by (with_reducible repeat (first | refine blk_drewN ?_ _ | refine blk_drew ?_ | refine blk_alloc ?_ _)); exact BK147.out)) : gb147 ≠ gb184)); have n10_ := Aside0.mk ((by rw [hg]; exact Nat.ne_of_gt (blk_lt (g := gb147) (o := .cells #[.int .i64 a0_0, .int .i64 a0_1, .int .i64 a0_2, .int .i64 a0_3, .int .i64 a0_4, .int .i64 a0_5, .int .i64 a0_6, .int .i64 a0_7, .int .i64 a0_8, .slice A0_9 l0_9.length c0_9] 26 (0, 0)) (by (with_reducible repeat (first | refine blk_drewN ?_ _ | refine blk_drew ?_ | refine blk_alloc ?_ _)); exact BK147.out)) : gb184 ≠ gb147)); have n11_ := Aside0.mk ((by rw [hg]; exact Nat.ne_of_lt (blk_lt (g := gb148) (o := .cells #[.int .i64 a1_0, .int .i64 a1_1, .int .i64 a1_2, .slice A1_3 l1_3.length c1_3, .slice A1_4 l1_4.length c1_4] 38 (0, 0)) (by (with_reducible repeat (first | refine blk_drewN ?_ _ | refine blk_drew ?_ | refine blk_alloc ?_ _)); exact BK148.out)) : gb148 ≠ gb184)); have n12_ := Aside0.mk ((by rw [hg]; exact Nat.ne_of_gt (blk_lt (g := gb148) (o := .cells #[.int .i64 a1_0, .int .i64 a1_1, .int .i64 a1_2, .slice A1_3 l1_3.length c1_3, .slice A1_4 l1_4.length c1_4] 38 (0, 0)) (by (with_reducible repeat (first | refine blk_drewN ?_ _ | refine blk_drew ?_ | refine blk_alloc ?_ _)); exact BK148.out)) : gb184 ≠ gb148)); clear HO172; clear HO179; clear HO182; clear BK147; clear BK148; clear HB; have HO172 := n0_; have HO179 := n1_; have HO182 := n2_; have BK147 := n3_; have BK148 := n4_; have HB := n5_; have BK184 := n6_; have GW184 := n7_; have GE184 := n8_; have NB147_184 := n9_; have NB184_147 := n10_; have NB148_184 := n11_; have NB184_148 := n12_; clear n0_ n1_ n2_ n3_ n4_ n5_ n6_ n7_ n8_ n9_ n10_ n11_ n12_; clear hb hbox hg; have hnb87 := NB184_147.out; have hnc87 := NB147_184.out; have hnb88 := NB184_148.out; have hnc88 := NB148_184.out; have hcz89_0 : w86.cell? ⟨gb184, 0, none⟩ = some (.int .i64 0) := (blk_cell BK184.out 0).trans rfl; have hcz89_1 : w86.cell? ⟨gb184, 1, none⟩ = some (.int .i64 0) := (blk_cell BK184.out 1).trans rfl; have hcz89_2 : w86.cell? ⟨gb184, 2, none⟩ = some (.int .i64 0) := (blk_cell BK184.out 2).trans rfl; have hcz89_3 : w86.cell? ⟨gb184, 3, none⟩ = some (.slice none 0 0) := (blk_cell BK184.out 3).trans rfl; have hcz89_4 : w86.cell? ⟨gb184, 4, none⟩ = some (.slice none 0 0) := (blk_cell BK184.out 4).trans rfl; have hfz89_0 := blk_frozen BK184.out 0; have hfz89_1 := blk_frozen BK184.out 1; have hfz89_2 := blk_frozen BK184.out 2; have hfz89_3 := blk_frozen BK184.out 3; have hfz89_4 := blk_frozen BK184.out 4; obtain ⟨Ao90, co90, eo90⟩ := Kd.R_slice HO179.out; subst eo90; obtain ⟨Ao91, co91, eo91⟩ := Kd.R_slice HO182.out; subst eo91; have hcz92_0 : w86.cell? ⟨gb148, 0, none⟩ = some (.int .i64 a1_0) := (blk_cell BK148.out 0).trans rfl; have hcz92_1 : w86.cell? ⟨gb148, 1, none⟩ = some (.int .i64 a1_1) := (blk_cell BK148.out 1).trans rfl; have hcz92_2 : w86.cell? ⟨gb148, 2, none⟩ = some (.int .i64 a1_2) := (blk_cell BK148.out 2).trans rfl; have hcz92_3 : w86.cell? ⟨gb148, 3, none⟩ = some (.slice A1_3 l1_3.length c1_3) := (blk_cell BK148.out 3).trans rfl; have hcz92_4 : w86.cell? ⟨gb148, 4, none⟩ = some (.slice A1_4 l1_4.length c1_4) := (blk_cell BK148.out 4).trans rfl; have hfz92_0 := blk_frozen BK148.out 0; have hfz92_1 := blk_frozen BK148.out 1; have hfz92_2 := blk_frozen BK148.out 2; have hfz92_3 := blk_frozen BK148.out 3; have hfz92_4 := blk_frozen BK148.out 4) | ((with_reducible refine gate_callee (f := 15) rfl ?_); refine goesL_ (some 78) rfl rfl Try.func15 (by kernel_rfl) rfl #[.agg #[.int .i64 a1_0, .int .i64 a1_1, .int .i64 a1_2, .slice A1_3 l1_3.length c1_3, .slice A1_4 l1_4.length c1_4], .agg #[.int .i64 t174, .int .i64 t175, .int .i64 t176, .slice Ao90 t177.length co90, .slice Ao91 t180.length co91]] rfl (by (try simp only [List.map_toArray, List.map_cons, List.map_nil]); first | done | rfl | (simp only [List.length_drop, List.length_take]; rfl)) ?_; (with_reducible refine (Pa.quartermasterref21_Replies.calls kj20 a1_0 a1_1 a1_2 _ _ l1_3 _ _ l1_4 t174 t175 t176 _ _ t177 _ _ t180 t185 _ ?side1 ?side2 ?side3 ?side4 ?side5 ?side6 ?side7 ?side8 A79.out).mono ?_); (case side1 => exact Kd.C_below HR1_3.out (by repeat (first | (with_reducible first | exact HB.out | apply below_alloc | apply pw_below_drewN | apply below_drew1 | refine below_set ?_ GE147.out | refine below_set ?_ GE148.out | refine below_set ?_ GE184.out) | exact HB.out))); (case side2 => exact HC1_3.out); (case side3 => exact Kd.C_below HR1_4.out (by repeat (first | (with_reducible first | exact HB.out | apply below_alloc | apply pw_below_drewN | apply below_drew1 | refine below_set ?_ GE147.out | refine below_set ?_ GE148.out | refine below_set ?_ GE184.out) | exact HB.out))); (case side4 => exact HC1_4.out); (case side5 => refine (Kd.R_reads' (e := 93) (base := w.heap.size) (ok := fun k_ => True) (n := t177.length) (c := co90) ?_).2.2; exact (by (with_reducible repeat (first | apply Kd.R_alloc | apply Kd.R_drewN | apply Kd.R_drew)); exact (Kd.R_mono (Kd.R_far (p := ⟨gb184, 4, none⟩) (Kd.R_far (p := ⟨gb184, 3, none⟩) (Kd.R_far (p := ⟨gb184, 2, none⟩) (Kd.R_far (p := ⟨gb184, 1, none⟩) (Kd.R_far (p := ⟨gb184, 0, none⟩) (Kd.R_types HO179.out BK184.out (by decide)) (fun _ hk => hk.2) (.int .i64 t174)) (fun _ hk => hk.2) (.int .i64 t175)) (fun _ hk => hk.2) (.int .i64 t176)) (fun _ hk => hk.2) (.slice Ao90 t177.length co90)) (fun _ hk => hk.2) (.slice Ao91 t180.length co91)) (fun _ h_ => h_.1)))); (case side6 => exact (Kd.R_reads' HO179.out).2.1); (case side7 => refine (Kd.R_reads' (e := 76) (base := w.heap.size) (ok := fun k_ => True) (n := t180.length) (c := co91) ?_).2.2; exact (by (with_reducible repeat (first | apply Kd.R_alloc | apply Kd.R_drewN | apply Kd.R_drew)); exact (Kd.R_mono (Kd.R_far (p := ⟨gb184, 4, none⟩) (Kd.R_far (p := ⟨gb184, 3, none⟩) (Kd.R_far (p := ⟨gb184, 2, none⟩) (Kd.R_far (p := ⟨gb184, 1, none⟩) (Kd.R_far (p := ⟨gb184, 0, none⟩) (Kd.R_types HO182.out BK184.out (by decide)) (fun _ hk => hk.2) (.int .i64 t174)) (fun _ hk => hk.2) (.int .i64 t175)) (fun _ hk => hk.2) (.int .i64 t176)) (fun _ hk => hk.2) (.slice Ao90 t177.length co90)) (fun _ hk => hk.2) (.slice Ao91 t180.length co91)) (fun _ h_ => h_.1)))); (case side8 => exact (Kd.R_reads' HO182.out).2.1); rintro e w93 ⟨rfl, hb⟩; refine ⟨_, rfl, ?_⟩; have n0_ := Aside0.mk (Kd.R_below (by (with_reducible repeat (first | apply Kd.R_alloc | apply Kd.R_drewN | apply Kd.R_drew)); exact (Kd.R_mono (Kd.R_far (p := ⟨gb184, 4, none⟩) (Kd.R_far (p := ⟨gb184, 3, none⟩) (Kd.R_far (p := ⟨gb184, 2, none⟩) (Kd.R_far (p := ⟨gb184, 1, none⟩) (Kd.R_far (p := ⟨gb184, 0, none⟩) (Kd.R_types HO172.out BK184.out (by decide)) (fun _ hk => hk.2) (.int .i64 t174)) (fun _ hk => hk.2) (.int .i64 t175)) (fun _ hk => hk.2) (.int .i64 t176)) (fun _ hk => hk.2) (.slice Ao90 t177.length co90)) (fun _ hk => hk.2) (.slice Ao91 t180.length co91)) (fun _ h_ => h_.1))) hb); have n1_ := Aside0.mk (Kd.R_below (by (with_reducible repeat (first | apply Kd.R_alloc | apply Kd.R_drewN | apply Kd.R_drew)); exact (Kd.R_mono (Kd.R_far (p := ⟨gb184, 4, none⟩) (Kd.R_far (p := ⟨gb184, 3, none⟩) (Kd.R_far (p := ⟨gb184, 2, none⟩) (Kd.R_far (p := ⟨gb184, 1, none⟩) (Kd.R_far (p := ⟨gb184, 0, none⟩) (Kd.R_types HO179.out BK184.out (by decide)) (fun _ hk => hk.2) (.int .i64 t174)) (fun _ hk => hk.2) (.int .i64 t175)) (fun _ hk => hk.2) (.int .i64 t176)) (fun _ hk => hk.2) (.slice Ao90 t177.length co90)) (fun _ hk => hk.2) (.slice Ao91 t180.length co91)) (fun _ h_ => h_.1))) hb); have n2_ := Aside0.mk (Kd.R_below (by (with_reducible repeat (first | apply Kd.R_alloc | apply Kd.R_drewN | apply Kd.R_drew)); exact (Kd.R_mono (Kd.R_far (p := ⟨gb184, 4, none⟩) (Kd.R_far (p := ⟨gb184, 3, none⟩) (Kd.R_far (p := ⟨gb184, 2, none⟩) (Kd.R_far (p := ⟨gb184, 1, none⟩) (Kd.R_far (p := ⟨gb184, 0, none⟩) (Kd.R_types HO182.out BK184.out (by decide)) (fun _ hk => hk.2) (.int .i64 t174)) (fun _ hk => hk.2) (.int .i64 t175)) (fun _ hk => hk.2) (.int .i64 t176)) (fun _ hk => hk.2) (.slice Ao90 t177.length co90)) (fun _ hk => hk.2) (.slice Ao91 t180.length co91)) (fun _ h_ => h_.1))) hb); have n3_ := Aside0.mk (blk_below (g := gb147) (o := .cells #[.int .i64 a0_0, .int .i64 a0_1, .int .i64 a0_2, .int .i64 a0_3, .int .i64 a0_4, .int .i64 a0_5, .int .i64 a0_6, .int .i64 a0_7, .int .i64 a0_8, .slice A0_9 l0_9.length c0_9] 26 (0, 0)) (by (with_reducible repeat (first | refine blk_drewN ?_ _ | refine blk_drew ?_ | refine blk_alloc ?_ _)); refine blk_far ?_ NB147_184.out _; (with_reducible repeat (first | refine blk_drewN ?_ _ | refine blk_drew ?_ | refine blk_alloc ?_ _)); refine blk_far ?_ NB147_184.out _; (with_reducible repeat (first | refine blk_drewN ?_ _ | refine blk_drew ?_ | refine blk_alloc ?_ _)); refine blk_far ?_ NB147_184.out _; (with_reducible repeat (first | refine blk_drewN ?_ _ | refine blk_drew ?_ | refine blk_alloc ?_ _)); refine blk_far ?_ NB147_184.out _; (with_reducible repeat (first | refine blk_drewN ?_ _ | refine blk_drew ?_ | refine blk_alloc ?_ _)); refine blk_far ?_ NB147_184.out _; (with_reducible repeat (first | refine blk_drewN ?_ _ | refine blk_drew ?_ | refine blk_alloc ?_ _)); exact BK147.out) hb); have n4_ := Aside0.mk (blk_below (g := gb148) (o := .cells #[.int .i64 a1_0, .int .i64 a1_1, .int .i64 a1_2, .slice A1_3 l1_3.length c1_3, .slice A1_4 l1_4.length c1_4] 38 (0, 0)) (by (with_reducible repeat (first | refine blk_drewN ?_ _ | refine blk_drew ?_ | refine blk_alloc ?_ _)); refine blk_far ?_ NB148_184.out _; (with_reducible repeat (first | refine blk_drewN ?_ _ | refine blk_drew ?_ | refine blk_alloc ?_ _)); refine blk_far ?_ NB148_184.out _; (with_reducible repeat (first | refine blk_drewN ?_ _ | refine blk_drew ?_ | refine blk_alloc ?_ _)); refine blk_far ?_ NB148_184.out _; (with_reducible repeat (first | refine blk_drewN ?_ _ | refine blk_drew ?_ | refine blk_alloc ?_ _)); refine blk_far ?_ NB148_184.out _; (with_reducible repeat (first | refine blk_drewN ?_ _ | refine blk_drew ?_ | refine blk_alloc ?_ _)); refine blk_far ?_ NB148_184.out _; (with_reducible repeat (first | refine blk_drewN ?_ _ | refine blk_drew ?_ | refine blk_alloc ?_ _)); exact BK148.out) hb); have n5_ := Aside0.mk (blk_below (g := gb184) (o := .cells #[.int .i64 t174, .int .i64 t175, .int .i64 t176, .slice Ao90 t177.length co90, .slice Ao91 t180.length co91] 38 (0, 0)) (by (with_reducible repeat (first | refine blk_drewN ?_ _ | refine blk_drew ?_ | refine blk_alloc ?_ _)); refine blk_put (cs := #[.int .i64 t174, .int .i64 t175, .int .i64 t176, .slice Ao90 t177.length co90, .slice none 0 0]) ?_ 4 _ rfl; (with_reducible repeat (first | refine blk_drewN ?_ _ | refine blk_drew ?_ | refine blk_alloc ?_ _)); refine blk_put (cs := #[.int .i64 t174, .int .i64 t175, .int .i64 t176, .slice none 0 0, .slice none 0 0]) ?_ 3 _ rfl; (with_reducible repeat (first | refine blk_drewN ?_ _ | refine blk_drew ?_ | refine blk_alloc ?_ _)); refine blk_put (cs := #[.int .i64 t174, .int .i64 t175, .int .i64 0, .slice none 0 0, .slice none 0 0]) ?_ 2 _ rfl; (with_reducible repeat (first | refine blk_drewN ?_ _ | refine blk_drew ?_ | refine blk_alloc ?_ _)); refine blk_put (cs := #[.int .i64 t174, .int .i64 0, .int .i64 0, .slice none 0 0, .slice none 0 0]) ?_ 1 _ rfl; (with_reducible repeat (first | refine blk_drewN ?_ _ | refine blk_drew ?_ | refine blk_alloc ?_ _)); refine blk_put (cs := #[.int .i64 0, .int .i64 0, .int .i64 0, .slice none 0 0, .slice none 0 0]) ?_ 0 _ rfl; (with_reducible repeat (first | refine blk_drewN ?_ _ | refine blk_drew ?_ | refine blk_alloc ?_ _)); exact BK184.out) hb); have n6_ := Aside0.mk (below_step (by repeat (first | (with_reducible first | exact HB.out | apply below_alloc | apply pw_below_drewN | apply below_drew1 | refine below_set ?_ GE147.out | refine below_set ?_ GE148.out | refine below_set ?_ GE184.out) | exact HB.out)) hb); clear HO172; clear HO179; clear HO182; clear BK147; clear BK148; clear BK184; clear HB; have HO172 := n0_; have HO179 := n1_; have HO182 := n2_; have BK147 := n3_; have BK148 := n4_; have BK184 := n5_; have HB := n6_; clear n0_ n1_ n2_ n3_ n4_ n5_ n6_; (try clear hb); (try clear hb2); (try clear hk); (try clear hi)))
                go_ret
                exact ⟨by first | rfl | (simp [errW_none, errW_some] <;> rfl) | (simp [*, errW_none, errW_some] <;> rfl), by repeat (first | (with_reducible first | exact HB.out | apply below_alloc | apply pw_below_drewN | apply below_drew1 | refine below_set ?_ GE147.out | refine below_set ?_ GE148.out | refine below_set ?_ GE184.out) | exact HB.out)⟩
              · rw [if_neg c80] at H; exact absurd H (by simp)
            · rw [if_neg c77] at H
              have c77b0 : (t173 == 0) = false := beq_eq_false_iff_ne.mpr c77
              have c77b1 : (t173 != 0) = true := bne_iff_ne.mpr c77
              replace H := Option.bind_eq_some_iff.mp H
              obtain ⟨t186, A1070, H⟩ := H
              replace H : (if ((t153 == 0) == t186) = true then (if t173 = 1 then (some ((t170.length : Int) == 0)) else (none)) else (none)) = some r := H
              have A107 := Aside0.mk A1070
              clear A1070
              by_cases c108 : ((t153 == 0) == t186) = true
              · rw [if_pos c108] at H
                have c108b0 : ((t153 == 0) == t186) = true := c108
                (try (have c108b1 : decide ((t153 == 0) = t186) = true := by simpa using c108))
                (try (have c108b2 : ((t153 == 0) == t186) = true := by simpa using c108))
                clear c108
                by_cases c109 : t173 = 1
                · rw [if_pos c109] at H
                  have c109b0 : (t173 == 1) = true := beq_iff_eq.mpr c109
                  have c109b1 : (t173 != 1) = false := bne_eq_false_iff_eq.mpr c109
                  clear c109
                  obtain rfl := Option.some.inj H
                  have hnb110 := NB148_147.out
                  have hnc110 := NB147_148.out
                  have hcz111_0 : wc.cell? ⟨gb148, 0, none⟩ = some (.int .i64 a1_0) := (blk_cell BK148.out 0).trans rfl
                  have hcz111_1 : wc.cell? ⟨gb148, 1, none⟩ = some (.int .i64 a1_1) := (blk_cell BK148.out 1).trans rfl
                  have hcz111_2 : wc.cell? ⟨gb148, 2, none⟩ = some (.int .i64 a1_2) := (blk_cell BK148.out 2).trans rfl
                  have hcz111_3 : wc.cell? ⟨gb148, 3, none⟩ = some (.slice A1_3 l1_3.length c1_3) := (blk_cell BK148.out 3).trans rfl
                  have hcz111_4 : wc.cell? ⟨gb148, 4, none⟩ = some (.slice A1_4 l1_4.length c1_4) := (blk_cell BK148.out 4).trans rfl
                  have hfz111_0 := blk_frozen BK148.out 0
                  have hfz111_1 := blk_frozen BK148.out 1
                  have hfz111_2 := blk_frozen BK148.out 2
                  have hfz111_3 := blk_frozen BK148.out 3
                  have hfz111_4 := blk_frozen BK148.out 4
                  go_wp2_with (first | ((with_reducible refine gate_callee (f := 14) rfl ?_); refine goesL_ (some 66) rfl rfl Try.func14 (by kernel_rfl) rfl #[.agg #[.int .i64 a1_0, .int .i64 a1_1, .int .i64 a1_2, .slice A1_3 l1_3.length c1_3, .slice A1_4 l1_4.length c1_4]] rfl (by (try simp only [List.map_toArray, List.map_cons, List.map_nil]); first | done | rfl | (simp only [List.length_drop, List.length_take]; rfl)) ?_; (with_reducible refine (req_Answer.calls a1_0 a1_1 a1_2 _ _ l1_3 _ _ l1_4 t170 t173 _ ?side1 ?side2 ?side3 ?side4 A76.out).mono ?_); (case side1 => repeat (first | exact (Kd.C_below HR1_3.out HB.out) | (with_reducible refine Kd.C_alloc ?_ _) | (with_reducible refine Kd.C_drewN ?_ _) | (with_reducible refine Kd.C_drew ?_))); (case side2 => exact HC1_3.out); (case side3 => repeat (first | exact (Kd.C_below HR1_4.out HB.out) | (with_reducible refine Kd.C_alloc ?_ _) | (with_reducible refine Kd.C_drewN ?_ _) | (with_reducible refine Kd.C_drew ?_))); (case side4 => exact HC1_4.out); rintro e w112 ⟨v171, rfl, ho0, hb⟩; refine ⟨_, rfl, ?_⟩; have n0_ := Aside0.mk (Kd.R_lower ho0 (below_size (by repeat (first | (with_reducible first | exact HB.out | apply below_alloc | apply pw_below_drewN | apply below_drew1 | refine below_set ?_ GE147.out | refine below_set ?_ GE148.out) | exact HB.out)))); have n1_ := Aside0.mk (blk_below (g := gb147) (o := .cells #[.int .i64 a0_0, .int .i64 a0_1, .int .i64 a0_2, .int .i64 a0_3, .int .i64 a0_4, .int .i64 a0_5, .int .i64 a0_6, .int .i64 a0_7, .int .i64 a0_8, .slice A0_9 l0_9.length c0_9] 26 (0, 0)) (by (with_reducible repeat (first | refine blk_drewN ?_ _ | refine blk_drew ?_ | refine blk_alloc ?_ _)); exact BK147.out) hb); have n2_ := Aside0.mk (blk_below (g := gb148) (o := .cells #[.int .i64 a1_0, .int .i64 a1_1, .int .i64 a1_2, .slice A1_3 l1_3.length c1_3, .slice A1_4 l1_4.length c1_4] 38 (0, 0)) (by (with_reducible repeat (first | refine blk_drewN ?_ _ | refine blk_drew ?_ | refine blk_alloc ?_ _)); exact BK148.out) hb); have n3_ := Aside0.mk (below_step (by repeat (first | (with_reducible first | exact HB.out | apply below_alloc | apply pw_below_drewN | apply below_drew1 | refine below_set ?_ GE147.out | refine below_set ?_ GE148.out) | exact HB.out)) hb); clear BK147; clear BK148; clear HB; have HO172 := n0_; have BK147 := n1_; have BK148 := n2_; have HB := n3_; clear n0_ n1_ n2_ n3_; (try clear hb); (try clear hb2); (try clear hk); (try clear hi); (try clear ho0); have hcz113_0 : w112.cell? ⟨gb147, 0, none⟩ = some (.int .i64 a0_0) := (blk_cell BK147.out 0).trans rfl; have hcz113_1 : w112.cell? ⟨gb147, 1, none⟩ = some (.int .i64 a0_1) := (blk_cell BK147.out 1).trans rfl; have hcz113_2 : w112.cell? ⟨gb147, 2, none⟩ = some (.int .i64 a0_2) := (blk_cell BK147.out 2).trans rfl; have hcz113_3 : w112.cell? ⟨gb147, 3, none⟩ = some (.int .i64 a0_3) := (blk_cell BK147.out 3).trans rfl; have hcz113_4 : w112.cell? ⟨gb147, 4, none⟩ = some (.int .i64 a0_4) := (blk_cell BK147.out 4).trans rfl; have hcz113_5 : w112.cell? ⟨gb147, 5, none⟩ = some (.int .i64 a0_5) := (blk_cell BK147.out 5).trans rfl; have hcz113_6 : w112.cell? ⟨gb147, 6, none⟩ = some (.int .i64 a0_6) := (blk_cell BK147.out 6).trans rfl; have hcz113_7 : w112.cell? ⟨gb147, 7, none⟩ = some (.int .i64 a0_7) := (blk_cell BK147.out 7).trans rfl; have hcz113_8 : w112.cell? ⟨gb147, 8, none⟩ = some (.int .i64 a0_8) := (blk_cell BK147.out 8).trans rfl; have hcz113_9 : w112.cell? ⟨gb147, 9, none⟩ = some (.slice A0_9 l0_9.length c0_9) := (blk_cell BK147.out 9).trans rfl; have hfz113_0 := blk_frozen BK147.out 0; have hfz113_1 := blk_frozen BK147.out 1; have hfz113_2 := blk_frozen BK147.out 2; have hfz113_3 := blk_frozen BK147.out 3; have hfz113_4 := blk_frozen BK147.out 4; have hfz113_5 := blk_frozen BK147.out 5; have hfz113_6 := blk_frozen BK147.out 6; have hfz113_7 := blk_frozen BK147.out 7; have hfz113_8 := blk_frozen BK147.out 8; have hfz113_9 := blk_frozen BK147.out 9) | ((with_reducible refine gate_callee (f := 13) rfl ?_); refine goesL_ (some 87) rfl rfl Try.func13 (by kernel_rfl) rfl #[.agg #[.int .i64 a0_0, .int .i64 a0_1, .int .i64 a0_2, .int .i64 a0_3, .int .i64 a0_4, .int .i64 a0_5, .int .i64 a0_6, .int .i64 a0_7, .int .i64 a0_8, .slice A0_9 l0_9.length c0_9]] rfl (by (try simp only [List.map_toArray, List.map_cons, List.map_nil]); first | done | rfl | (simp only [List.length_drop, List.length_take]; rfl)) ?_; (with_reducible refine (req_May.calls a0_0 a0_1 a0_2 a0_3 a0_4 a0_5 a0_6 a0_7 a0_8 _ _ l0_9 t186 _ ?side1 ?side2 A107.out).mono ?_); (case side1 => repeat (first | exact (Kd.C_below HR0_9.out HB.out) | (with_reducible refine Kd.C_alloc ?_ _) | (with_reducible refine Kd.C_drewN ?_ _) | (with_reducible refine Kd.C_drew ?_))); (case side2 => exact HC0_9.out); rintro e w114 ⟨rfl, hb⟩; refine ⟨_, rfl, ?_⟩; have n0_ := Aside0.mk (Kd.R_below (by (with_reducible repeat (first | apply Kd.R_alloc | apply Kd.R_drewN | apply Kd.R_drew)); exact HO172.out) hb); have n1_ := Aside0.mk (blk_below (g := gb147) (o := .cells #[.int .i64 a0_0, .int .i64 a0_1, .int .i64 a0_2, .int .i64 a0_3, .int .i64 a0_4, .int .i64 a0_5, .int .i64 a0_6, .int .i64 a0_7, .int .i64 a0_8, .slice A0_9 l0_9.length c0_9] 26 (0, 0)) (by (with_reducible repeat (first | refine blk_drewN ?_ _ | refine blk_drew ?_ | refine blk_alloc ?_ _)); exact BK147.out) hb); have n2_ := Aside0.mk (blk_below (g := gb148) (o := .cells #[.int .i64 a1_0, .int .i64 a1_1, .int .i64 a1_2, .slice A1_3 l1_3.length c1_3, .slice A1_4 l1_4.length c1_4] 38 (0, 0)) (by (with_reducible repeat (first | refine blk_drewN ?_ _ | refine blk_drew ?_ | refine blk_alloc ?_ _)); exact BK148.out) hb); have n3_ := Aside0.mk (below_step (by repeat (first | (with_reducible first | exact HB.out | apply below_alloc | apply pw_below_drewN | apply below_drew1 | refine below_set ?_ GE147.out | refine below_set ?_ GE148.out) | exact HB.out)) hb); clear HO172; clear BK147; clear BK148; clear HB; have HO172 := n0_; have BK147 := n1_; have BK148 := n2_; have HB := n3_; clear n0_ n1_ n2_ n3_; (try clear hb); (try clear hb2); (try clear hk); (try clear hi); obtain ⟨Ao115, co115, eo115⟩ := Kd.R_slice HO172.out; subst eo115))
                  go_ret
                  exact ⟨by first | rfl | (simp [errW_none, errW_some] <;> rfl) | (simp [*, errW_none, errW_some] <;> rfl), by repeat (first | (with_reducible first | exact HB.out | apply below_alloc | apply pw_below_drewN | apply below_drew1 | refine below_set ?_ GE147.out | refine below_set ?_ GE148.out) | exact HB.out)⟩
                · rw [if_neg c109] at H; exact absurd H (by simp)
              · rw [if_neg c108] at H; exact absurd H (by simp)
/-- THE ONE PURE STATEMENT of quartermasterlaw21_ReqBack. -/
def quartermasterlaw21_ReqBack.Pure : Prop := ∀ (a0_0 : Int) (a0_1 : Int) (a0_2 : Int) (a0_3 : Int) (a0_4 : Int) (a0_5 : Int) (a0_6 : Int) (a0_7 : Int) (a0_8 : Int) (l0_9 : List (S93)) (a1_0 : Int) (a1_1 : Int) (a1_2 : Int) (l1_3 : List (S93)) (l1_4 : List (S76)), ((Lit.int .i64 a0_0).wf = true) → ((Lit.int .i64 a0_1).wf = true) → ((Lit.int .i64 a0_2).wf = true) → ((Lit.int .i64 a0_3).wf = true) → ((Lit.int .i64 a0_4).wf = true) → ((Lit.int .i64 a0_5).wf = true) → ((Lit.int .i64 a0_6).wf = true) → ((Lit.int .i64 a0_7).wf = true) → ((Lit.int .i64 a0_8).wf = true) → (l0_9.length ≤ maxLen) → (∀ y0 ∈ l0_9, qT93 y0) → ((Lit.int .i64 a1_0).wf = true) → ((Lit.int .i64 a1_1).wf = true) → ((Lit.int .i64 a1_2).wf = true) → (l1_3.length ≤ maxLen) → (∀ y0 ∈ l1_3, qT93 y0) → (l1_4.length ≤ maxLen) → (∀ y0 ∈ l1_4, qT76 y0) → ∃ k, quartermasterlaw21_ReqBack.f k a0_0 a0_1 a0_2 a0_3 a0_4 a0_5 a0_6 a0_7 a0_8 l0_9 a1_0 a1_1 a1_2 l1_3 l1_4 = some true

end Go.Proofs.Ytgdelfckhcgnhaa.Px
