/- Plain functions, and the walks that show that the Go functions come to them: written by this session's program wip/myprint.py, which runs the kit's print over the translation. No conditions beside those that each contract states. -/
import Derived.Test.YthgganjnodoldaaPa0
import Derived.Test.YthgganjnodoldaaPa3
import Derived.Test.YthgganjnodoldaaPaq
namespace Go.Proofs.Ythgganjnodoldaa.Pa
open Go.RowKit Go.Proofs.YthgganjnodoldaaW.PrintWords Go.Proofs.YthgganjnodoldaaW.PrintLast Go.Proofs.YthgganjnodoldaaW.PrintMore
attribute [local go_sem] max2_int min2_int max_two min_two max_three min_three max_four min_four   -- for this text's walks alone
set_option linter.unusedVariables false
set_option linter.unusedSimpArgs false

/-! ### quartermasterref19_Sum: function 12 -/
mutual
def quartermasterref19_Sum.l0 : Nat → List (S35) → Int → Int → Int → Int → Option (Int × Int)
  | 0, _, _, _, _, _ => none
  | k + 1, x0, x1, x2, x9, x10 => if x10 < (x0.length : Int) then (if 0 ≤ x10 then (if ((rd_T35 x0 x10).f1) = x1 then (quartermasterref19_Sum.j1 k x0 x1 x2 x9 x10 (((rd_T35 x0 x10).f2) != x2) ((rd_T35 x0 x10).f0) ((rd_T35 x0 x10).f1) ((rd_T35 x0 x10).f2) ((rd_T35 x0 x10).f3)) else (quartermasterref19_Sum.j1 k x0 x1 x2 x9 x10 true ((rd_T35 x0 x10).f0) ((rd_T35 x0 x10).f1) ((rd_T35 x0 x10).f2) ((rd_T35 x0 x10).f3))) else (none)) else (some (x9, 0))
def quartermasterref19_Sum.j1 : Nat → List (S35) → Int → Int → Int → Int → Bool → Int → Int → Int → Int → Option (Int × Int)
  | 0, _, _, _, _, _, _, _, _, _, _ => none
  | k + 1, x0, x1, x2, x9, x10, x37, x122000, x122001, x122002, x122003 => if x37 = true then (quartermasterref19_Sum.l0 k x0 x1 x2 x9 (wrap64 (x10 + 1))) else (if x122000 = 1 then (quartermasterref19_Sum.j2 k x0 x1 x2 x9 x10 x122000 (x122000 == 1) x122000 x122001 x122002 x122003) else (quartermasterref19_Sum.j2 k x0 x1 x2 x9 x10 x122000 (x122000 == 3) x122000 x122001 x122002 x122003))
def quartermasterref19_Sum.j2 : Nat → List (S35) → Int → Int → Int → Int → Int → Bool → Int → Int → Int → Int → Option (Int × Int)
  | 0, _, _, _, _, _, _, _, _, _, _, _ => none
  | k + 1, x0, x1, x2, x9, x10, x39, x58, x122000, x122001, x122002, x122003 => if x58 = true then ((quartermasterref16_Add.f k x9 x122003).bind fun bt122 => (if bt122.2 = 0 then (quartermasterref19_Sum.l0 k x0 x1 x2 bt122.1 (wrap64 (x10 + 1))) else (some (0, bt122.2)))) else (if x39 = 4 then (quartermasterref19_Sum.j3 k x0 x1 x2 x9 x10 (x39 == 4) x122000 x122001 x122002 x122003) else (quartermasterref19_Sum.j3 k x0 x1 x2 x9 x10 (x39 == 5) x122000 x122001 x122002 x122003))
def quartermasterref19_Sum.j3 : Nat → List (S35) → Int → Int → Int → Int → Bool → Int → Int → Int → Int → Option (Int × Int)
  | 0, _, _, _, _, _, _, _, _, _, _ => none
  | k + 1, x0, x1, x2, x9, x10, x68, x122000, x122001, x122002, x122003 => if x68 = true then ((quartermasterref16_Sub.f k x9 x122003).bind fun bt124 => (if bt124.2 = 0 then (quartermasterref19_Sum.l0 k x0 x1 x2 bt124.1 (wrap64 (x10 + 1))) else (some (0, bt124.2)))) else (if x122003 > 0 then ((quartermasterref16_Add.f k x9 x122003).bind fun bt126 => (if bt126.2 = 0 then (quartermasterref19_Sum.l0 k x0 x1 x2 bt126.1 (wrap64 (x10 + 1))) else (some (0, bt126.2)))) else ((quartermasterref16_Sub.f k x9 (wrap64 (-x122003))).bind fun bt128 => (if bt128.2 = 0 then (quartermasterref19_Sum.l0 k x0 x1 x2 bt128.1 (wrap64 (x10 + 1))) else (some (0, bt128.2)))))
end
def quartermasterref19_Sum.f (k : Nat) (l0 : List (S35)) (a1 : Int) (a2 : Int) : Option (Int × Int) := (quartermasterref19_May.f k l0).bind fun t119 => (if t119 = true then (quartermasterref19_Sum.l0 k l0 a1 a2 0 0) else (some (0, 1)))
theorem quartermasterref19_Sum.mono_l : ∀ k, (∀ y0 y1 y2 y3 y4, LeO (quartermasterref19_Sum.l0 k y0 y1 y2 y3 y4) (quartermasterref19_Sum.l0 (k + 1) y0 y1 y2 y3 y4)) ∧ (∀ y0 y1 y2 y3 y4 y5 y6 y7 y8 y9, LeO (quartermasterref19_Sum.j1 k y0 y1 y2 y3 y4 y5 y6 y7 y8 y9) (quartermasterref19_Sum.j1 (k + 1) y0 y1 y2 y3 y4 y5 y6 y7 y8 y9)) ∧ (∀ y0 y1 y2 y3 y4 y5 y6 y7 y8 y9 y10, LeO (quartermasterref19_Sum.j2 k y0 y1 y2 y3 y4 y5 y6 y7 y8 y9 y10) (quartermasterref19_Sum.j2 (k + 1) y0 y1 y2 y3 y4 y5 y6 y7 y8 y9 y10)) ∧ (∀ y0 y1 y2 y3 y4 y5 y6 y7 y8 y9, LeO (quartermasterref19_Sum.j3 k y0 y1 y2 y3 y4 y5 y6 y7 y8 y9) (quartermasterref19_Sum.j3 (k + 1) y0 y1 y2 y3 y4 y5 y6 y7 y8 y9))
  | 0 => ⟨fun _ _ _ _ _ r h => by simp [quartermasterref19_Sum.l0] at h, fun _ _ _ _ _ _ _ _ _ _ r h => by simp [quartermasterref19_Sum.j1] at h, fun _ _ _ _ _ _ _ _ _ _ _ r h => by simp [quartermasterref19_Sum.j2] at h, fun _ _ _ _ _ _ _ _ _ _ r h => by simp [quartermasterref19_Sum.j3] at h⟩
  | k + 1 => by
    obtain ⟨ih0, ih1, ih2, ih3⟩ := quartermasterref19_Sum.mono_l k
    refine ⟨?_, ?_, ?_, ?_⟩
    · intro y0 y1 y2 y3 y4
      unfold quartermasterref19_Sum.l0
      repeat' first
      | (with_reducible exact ih0 _ _ _ _ _)
      | (with_reducible exact ih1 _ _ _ _ _ _ _ _ _ _)
      | (with_reducible exact ih2 _ _ _ _ _ _ _ _ _ _ _)
      | (with_reducible exact ih3 _ _ _ _ _ _ _ _ _ _)
      | (with_reducible exact quartermasterref16_Add.mono _ _ _)
      | (with_reducible exact quartermasterref16_Sub.mono _ _ _)
      | (with_reducible exact quartermasterref19_May.mono _ _)
      | (with_reducible exact LeO.refl _)
      | (with_reducible exact LeO.none _)
      | (with_reducible refine LeO.ite ?_ ?_)
      | (with_reducible refine LeO.bind ?_ (fun _ => ?_))
      | exact ih0 _ _ _ _ _
      | exact ih1 _ _ _ _ _ _ _ _ _ _
      | exact ih2 _ _ _ _ _ _ _ _ _ _ _
      | exact ih3 _ _ _ _ _ _ _ _ _ _
      | exact quartermasterref16_Add.mono _ _ _
      | exact quartermasterref16_Sub.mono _ _ _
      | exact quartermasterref19_May.mono _ _
      | exact LeO.none _
      | refine LeO.ite ?_ ?_
      | refine LeO.bind ?_ (fun _ => ?_)
    · intro y0 y1 y2 y3 y4 y5 y6 y7 y8 y9
      unfold quartermasterref19_Sum.j1
      repeat' first
      | (with_reducible exact ih0 _ _ _ _ _)
      | (with_reducible exact ih1 _ _ _ _ _ _ _ _ _ _)
      | (with_reducible exact ih2 _ _ _ _ _ _ _ _ _ _ _)
      | (with_reducible exact ih3 _ _ _ _ _ _ _ _ _ _)
      | (with_reducible exact quartermasterref16_Add.mono _ _ _)
      | (with_reducible exact quartermasterref16_Sub.mono _ _ _)
      | (with_reducible exact quartermasterref19_May.mono _ _)
      | (with_reducible exact LeO.refl _)
      | (with_reducible exact LeO.none _)
      | (with_reducible refine LeO.ite ?_ ?_)
      | (with_reducible refine LeO.bind ?_ (fun _ => ?_))
      | exact ih0 _ _ _ _ _
      | exact ih1 _ _ _ _ _ _ _ _ _ _
      | exact ih2 _ _ _ _ _ _ _ _ _ _ _
      | exact ih3 _ _ _ _ _ _ _ _ _ _
      | exact quartermasterref16_Add.mono _ _ _
      | exact quartermasterref16_Sub.mono _ _ _
      | exact quartermasterref19_May.mono _ _
      | exact LeO.none _
      | refine LeO.ite ?_ ?_
      | refine LeO.bind ?_ (fun _ => ?_)
    · intro y0 y1 y2 y3 y4 y5 y6 y7 y8 y9 y10
      unfold quartermasterref19_Sum.j2
      repeat' first
      | (with_reducible exact ih0 _ _ _ _ _)
      | (with_reducible exact ih1 _ _ _ _ _ _ _ _ _ _)
      | (with_reducible exact ih2 _ _ _ _ _ _ _ _ _ _ _)
      | (with_reducible exact ih3 _ _ _ _ _ _ _ _ _ _)
      | (with_reducible exact quartermasterref16_Add.mono _ _ _)
      | (with_reducible exact quartermasterref16_Sub.mono _ _ _)
      | (with_reducible exact quartermasterref19_May.mono _ _)
      | (with_reducible exact LeO.refl _)
      | (with_reducible exact LeO.none _)
      | (with_reducible refine LeO.ite ?_ ?_)
      | (with_reducible refine LeO.bind ?_ (fun _ => ?_))
      | exact ih0 _ _ _ _ _
      | exact ih1 _ _ _ _ _ _ _ _ _ _
      | exact ih2 _ _ _ _ _ _ _ _ _ _ _
      | exact ih3 _ _ _ _ _ _ _ _ _ _
      | exact quartermasterref16_Add.mono _ _ _
      | exact quartermasterref16_Sub.mono _ _ _
      | exact quartermasterref19_May.mono _ _
      | exact LeO.none _
      | refine LeO.ite ?_ ?_
      | refine LeO.bind ?_ (fun _ => ?_)
    · intro y0 y1 y2 y3 y4 y5 y6 y7 y8 y9
      unfold quartermasterref19_Sum.j3
      repeat' first
      | (with_reducible exact ih0 _ _ _ _ _)
      | (with_reducible exact ih1 _ _ _ _ _ _ _ _ _ _)
      | (with_reducible exact ih2 _ _ _ _ _ _ _ _ _ _ _)
      | (with_reducible exact ih3 _ _ _ _ _ _ _ _ _ _)
      | (with_reducible exact quartermasterref16_Add.mono _ _ _)
      | (with_reducible exact quartermasterref16_Sub.mono _ _ _)
      | (with_reducible exact quartermasterref19_May.mono _ _)
      | (with_reducible exact LeO.refl _)
      | (with_reducible exact LeO.none _)
      | (with_reducible refine LeO.ite ?_ ?_)
      | (with_reducible refine LeO.bind ?_ (fun _ => ?_))
      | exact ih0 _ _ _ _ _
      | exact ih1 _ _ _ _ _ _ _ _ _ _
      | exact ih2 _ _ _ _ _ _ _ _ _ _ _
      | exact ih3 _ _ _ _ _ _ _ _ _ _
      | exact quartermasterref16_Add.mono _ _ _
      | exact quartermasterref16_Sub.mono _ _ _
      | exact quartermasterref19_May.mono _ _
      | exact LeO.none _
      | refine LeO.ite ?_ ?_
      | refine LeO.bind ?_ (fun _ => ?_)
theorem quartermasterref19_Sum.mono : ∀ a0 a1 a2 k, LeO (quartermasterref19_Sum.f k a0 a1 a2) (quartermasterref19_Sum.f (k + 1) a0 a1 a2) := by
  intro a0 a1 a2 k
  obtain ⟨ih0, ih1, ih2, ih3⟩ := quartermasterref19_Sum.mono_l k
  unfold quartermasterref19_Sum.f
  repeat' first
      | (with_reducible exact ih0 _ _ _ _ _)
      | (with_reducible exact ih1 _ _ _ _ _ _ _ _ _ _)
      | (with_reducible exact ih2 _ _ _ _ _ _ _ _ _ _ _)
      | (with_reducible exact ih3 _ _ _ _ _ _ _ _ _ _)
      | (with_reducible exact quartermasterref16_Add.mono _ _ _)
      | (with_reducible exact quartermasterref16_Sub.mono _ _ _)
      | (with_reducible exact quartermasterref19_May.mono _ _)
      | (with_reducible exact LeO.refl _)
      | (with_reducible exact LeO.none _)
      | (with_reducible refine LeO.ite ?_ ?_)
      | (with_reducible refine LeO.bind ?_ (fun _ => ?_))
      | exact ih0 _ _ _ _ _
      | exact ih1 _ _ _ _ _ _ _ _ _ _
      | exact ih2 _ _ _ _ _ _ _ _ _ _ _
      | exact ih3 _ _ _ _ _ _ _ _ _ _
      | exact quartermasterref16_Add.mono _ _ _
      | exact quartermasterref16_Sub.mono _ _ _
      | exact quartermasterref19_May.mono _ _
      | exact LeO.none _
      | refine LeO.ite ?_ ?_
      | refine LeO.bind ?_ (fun _ => ?_)
set_option maxHeartbeats 8000000 in
set_option maxRecDepth 100000 in
theorem quartermasterref19_Sum.calls (k : Nat) (A0 : Option Addr) (c0 : Nat) (l0 : List (S35)) (a1 : Int) (a2 : Int) (r1 : Int) (r2 : Int) (w : World) (hr0 : Kd.C k35 w A0 l0.length l0) (hc0 : l0.length ≤ c0) (h : quartermasterref19_Sum.f k l0 a1 a2 = some (r1, r2)) :
    Calls Try.prog 12 #[.slice A0 l0.length c0, .int .i64 a1, .int .i64 a2] w fun e w' => e = .returned (.tuple #[.int .i64 r1, .int .i64 r2]) ∧ Below w.heap.size w w' := by
  have hu35 := Try.underlying35
  have HR0 := Aside0.mk hr0
  have HC0 := Aside0.mk hc0
  clear hr0 hc0
  have HB := Aside0.mk (Below.refl w.heap.size w)
  have H : ((quartermasterref19_May.f k l0).bind fun t119 => (if t119 = true then (quartermasterref19_Sum.l0 k l0 a1 a2 0 0) else (some (0, 1)))) = some (r1, r2) := h
  clear h
  replace H := Option.bind_eq_some_iff.mp H
  obtain ⟨t119, A40, H⟩ := H
  replace H : (if t119 = true then (quartermasterref19_Sum.l0 k l0 a1 a2 0 0) else (some (0, 1))) = some (r1, r2) := H
  have A4 := Aside0.mk A40
  clear A40
  by_cases c5 : t119 = true
  · subst c5
    have H1 : (quartermasterref19_Sum.l0 k l0 a1 a2 0 0) = some (r1, r2) := by rw [if_pos rfl] at H; exact H
    clear H
    have H := H1
    clear H1
    have H' := Aside0.mk H
    clear H
    go_enter Try.func12, Try.ntmps12
    go_wp2_with (first | ((with_reducible refine gate_callee (f := 16) rfl ?_); refine goesL_ (some 15) rfl rfl Try.func16 (by kernel_rfl) rfl #[.slice A0 l0.length c0] rfl (by (try simp only [List.map_toArray, List.map_cons, List.map_nil]); first | done | rfl | (simp only [List.length_drop, List.length_take]; rfl)) ?_; (with_reducible refine (quartermasterref19_May.calls k _ _ l0 true _ ?side1 ?side2 A4.out).mono ?_); (case side1 => repeat (first | exact HR0.out | (with_reducible refine Kd.C_alloc ?_ _) | (with_reducible refine Kd.C_drewN ?_ _) | (with_reducible refine Kd.C_drew ?_))); (case side2 => exact HC0.out); rintro e w6 ⟨rfl, hb⟩; refine ⟨_, rfl, ?_⟩; have n0_ := Aside0.mk (below_step (by repeat (first | (with_reducible first | exact HB.out | apply below_alloc | apply pw_below_drewN | apply below_drew1) | exact HB.out)) hb); clear HB; have HB := n0_; clear n0_; (try clear hb); (try clear hb2); (try clear hk); (try clear hi)))
    go_loopg [9, 10] k (fun kq v9 v10 w' => ∃ (x9_1 : Int) (x10_1 : Int), v9 = .int .i64 x9_1 ∧ v10 = .int .i64 x10_1 ∧ Aside0 (quartermasterref19_Sum.l0 kq l0 a1 a2 x9_1 x10_1 = some (r1, r2)) ∧ Aside0 (kq ≤ k) ∧ Aside0 (Below w.heap.size w w'))
    case atStart => exact ⟨(0), (0), (by first | rfl | (simp; done) | (simp [*]; done)), (by first | rfl | (simp; done) | (simp [*]; done)), H', ⟨Nat.le_refl _⟩, ⟨by repeat (first | (with_reducible first | exact HB.out | apply below_alloc | apply pw_below_drewN | apply below_drew1) | exact HB.out)⟩⟩
    case round =>
      clear H'
      try clear c1
      try clear p2
      try clear c5
      obtain ⟨x9_1, x10_1, rfl, rfl, HA, HK1, HB⟩ := hrel
      cases gk with
      | zero => exact absurd HA.out (by simp [quartermasterref19_Sum.l0])
      | succ k1 =>
        have H := HA.out
        clear HA
        simp only [quartermasterref19_Sum.l0] at H
        by_cases c7 : x10_1 < (l0.length : Int)
        · rw [if_pos c7] at H
          have c7b0 : decide (x10_1 < (l0.length : Int)) = true := decide_eq_true c7
          clear c7
          by_cases c8 : 0 ≤ x10_1
          · rw [if_pos c8] at H
            have c8b0 : decide (0 ≤ x10_1) = true := decide_eq_true c8
            clear c8
            have HC9 := Aside0.mk H
            clear H
            have p120 : 0 ≤ (x10_1 : Int) := of_decide_eq_true (by first | (with_reducible assumption) | assumption)
            have q120 : x10_1 < (l0.length : Int) := of_decide_eq_true (by first | (with_reducible assumption) | assumption)
            obtain ⟨ad120, e120, hx120_0, hx120_1, hx120_2, hx120_3⟩ := at_T35 HR0.out x10_1 p120 q120
            cases e120
            replace hx120_0 := (HB.out.cell (World.block_lt_of_cell? w _ hx120_0)).trans hx120_0
            replace hx120_1 := (HB.out.cell (World.block_lt_of_cell? w _ hx120_1)).trans hx120_1
            replace hx120_2 := (HB.out.cell (World.block_lt_of_cell? w _ hx120_2)).trans hx120_2
            replace hx120_3 := (HB.out.cell (World.block_lt_of_cell? w _ hx120_3)).trans hx120_3
            replace p120 := eq_true p120
            replace q120 := eq_true q120
            go_upto_region 9 with (first | ((with_reducible refine gate_dst (N := 11) rfl ?_); refine box_event ?hg (N := 11) ?hd (cs := #[.int .i64 0, .int .i64 0, .int .i64 0, .int .i64 0]) (t := 35) ?hr ?_; (case hd => rfl); (case hg => rfl); (case hr => first | (go_simp; done) | (go_simp; rfl)); intro gb121 hg w10 hbox hb; have n0_ := Aside0.mk (below_step (by repeat (first | (with_reducible first | exact HB.out | apply below_alloc | apply pw_below_drewN | apply below_drew1) | exact HB.out)) hb); have n1_ := Aside0.mk (hbox); have n2_ := Aside0.mk ((by rw [hg]; exact (below_size (by repeat (first | (with_reducible first | exact HB.out | apply below_alloc | apply pw_below_drewN | apply below_drew1) | exact HB.out))) : w.heap.size ≤ gb121)); have n3_ := Aside0.mk ((by rw [hg]; exact (below_size (by repeat (first | (with_reducible first | exact HB.out | apply below_alloc | apply pw_below_drewN | apply below_drew1) | exact HB.out))) : w.heap.size ≤ gb121)); clear HB; have HB := n0_; have BK121 := n1_; have GW121 := n2_; have GE121 := n3_; clear n0_ n1_ n2_ n3_; clear hb hbox hg; have hcz11_0 : w10.cell? ⟨gb121, 0, none⟩ = some (.int .i64 0) := (blk_cell BK121.out 0).trans rfl; have hcz11_1 : w10.cell? ⟨gb121, 1, none⟩ = some (.int .i64 0) := (blk_cell BK121.out 1).trans rfl; have hcz11_2 : w10.cell? ⟨gb121, 2, none⟩ = some (.int .i64 0) := (blk_cell BK121.out 2).trans rfl; have hcz11_3 : w10.cell? ⟨gb121, 3, none⟩ = some (.int .i64 0) := (blk_cell BK121.out 3).trans rfl; have hfz11_0 := blk_frozen BK121.out 0; have hfz11_1 := blk_frozen BK121.out 1; have hfz11_2 := blk_frozen BK121.out 2; have hfz11_3 := blk_frozen BK121.out 3))
            (try simp only [Act.put, List.setIfInBounds_toArray, List.set_cons_zero, List.set_cons_succ])
            go_cut [37] (fun v37 wc => ∃ (kq : Nat) (x37_8 : Bool), v37 = .bool x37_8 ∧ Aside0 (quartermasterref19_Sum.j1 kq l0 a1 a2 x9_1 x10_1 x37_8 ((rd_T35 l0 x10_1).f0) ((rd_T35 l0 x10_1).f1) ((rd_T35 l0 x10_1).f2) ((rd_T35 l0 x10_1).f3) = some (r1, r2)) ∧ Aside0 (kq ≤ k1) ∧ Aside0 (wc.heap[gb121]? = some (.cells #[.int .i64 ((rd_T35 l0 x10_1).f0), .int .i64 ((rd_T35 l0 x10_1).f1), .int .i64 ((rd_T35 l0 x10_1).f2), .int .i64 ((rd_T35 l0 x10_1).f3)] 35 (0, 0))) ∧ Aside0 (Below w.heap.size w wc))
            case first =>
              have H := HC9.out
              clear HC9
              by_cases c12 : ((rd_T35 l0 x10_1).f1) = a1
              · rw [if_pos c12] at H
                have c12b0 : (((rd_T35 l0 x10_1).f1) == a1) = true := beq_iff_eq.mpr c12
                have c12b1 : (((rd_T35 l0 x10_1).f1) != a1) = false := bne_eq_false_iff_eq.mpr c12
                clear c12
                (first | rw [c12b0] | (simp only [i64_w, i32_w]; rw [c12b0]) | skip)
                have H' := Aside0.mk H
                clear H
                have hcz13_0 : w10.cell? ⟨gb121, 0, none⟩ = some (.int .i64 0) := (blk_cell BK121.out 0).trans rfl
                have hcz13_1 : w10.cell? ⟨gb121, 1, none⟩ = some (.int .i64 0) := (blk_cell BK121.out 1).trans rfl
                have hcz13_2 : w10.cell? ⟨gb121, 2, none⟩ = some (.int .i64 0) := (blk_cell BK121.out 2).trans rfl
                have hcz13_3 : w10.cell? ⟨gb121, 3, none⟩ = some (.int .i64 0) := (blk_cell BK121.out 3).trans rfl
                have hfz13_0 := blk_frozen BK121.out 0
                have hfz13_1 := blk_frozen BK121.out 1
                have hfz13_2 := blk_frozen BK121.out 2
                have hfz13_3 := blk_frozen BK121.out 3
                go_wp2
                go_meet
                case rel => exact ⟨_, ((((rd_T35 l0 x10_1).f2) != a2)), (by first | rfl | (simp; done) | (simp [*]; done)), H', ⟨by have := HK1.out; first | omega | exact Nat.le_refl _⟩, ⟨by (with_reducible repeat (first | refine blk_drewN ?_ _ | refine blk_drew ?_ | refine blk_alloc ?_ _)); refine blk_put (cs := #[.int .i64 ((rd_T35 l0 x10_1).f0), .int .i64 ((rd_T35 l0 x10_1).f1), .int .i64 ((rd_T35 l0 x10_1).f2), .int .i64 0]) ?_ 3 _ rfl; (with_reducible repeat (first | refine blk_drewN ?_ _ | refine blk_drew ?_ | refine blk_alloc ?_ _)); refine blk_put (cs := #[.int .i64 ((rd_T35 l0 x10_1).f0), .int .i64 ((rd_T35 l0 x10_1).f1), .int .i64 0, .int .i64 0]) ?_ 2 _ rfl; (with_reducible repeat (first | refine blk_drewN ?_ _ | refine blk_drew ?_ | refine blk_alloc ?_ _)); refine blk_put (cs := #[.int .i64 ((rd_T35 l0 x10_1).f0), .int .i64 0, .int .i64 0, .int .i64 0]) ?_ 1 _ rfl; (with_reducible repeat (first | refine blk_drewN ?_ _ | refine blk_drew ?_ | refine blk_alloc ?_ _)); refine blk_put (cs := #[.int .i64 0, .int .i64 0, .int .i64 0, .int .i64 0]) ?_ 0 _ rfl; (with_reducible repeat (first | refine blk_drewN ?_ _ | refine blk_drew ?_ | refine blk_alloc ?_ _)); exact BK121.out⟩, ⟨by repeat (first | (with_reducible first | exact HB.out | apply below_alloc | apply pw_below_drewN | apply below_drew1 | refine below_set ?_ GE121.out) | exact HB.out)⟩⟩
              · rw [if_neg c12] at H
                have c12b0 : (((rd_T35 l0 x10_1).f1) == a1) = false := beq_eq_false_iff_ne.mpr c12
                have c12b1 : (((rd_T35 l0 x10_1).f1) != a1) = true := bne_iff_ne.mpr c12
                (first | rw [c12b0] | (simp only [i64_w, i32_w]; rw [c12b0]) | skip)
                have H' := Aside0.mk H
                clear H
                have hcz14_0 : w10.cell? ⟨gb121, 0, none⟩ = some (.int .i64 0) := (blk_cell BK121.out 0).trans rfl
                have hcz14_1 : w10.cell? ⟨gb121, 1, none⟩ = some (.int .i64 0) := (blk_cell BK121.out 1).trans rfl
                have hcz14_2 : w10.cell? ⟨gb121, 2, none⟩ = some (.int .i64 0) := (blk_cell BK121.out 2).trans rfl
                have hcz14_3 : w10.cell? ⟨gb121, 3, none⟩ = some (.int .i64 0) := (blk_cell BK121.out 3).trans rfl
                have hfz14_0 := blk_frozen BK121.out 0
                have hfz14_1 := blk_frozen BK121.out 1
                have hfz14_2 := blk_frozen BK121.out 2
                have hfz14_3 := blk_frozen BK121.out 3
                go_wp2
                go_meet
                case rel => exact ⟨_, (true), (by first | rfl | (simp; done) | (simp [*]; done)), H', ⟨by have := HK1.out; first | omega | exact Nat.le_refl _⟩, ⟨by (with_reducible repeat (first | refine blk_drewN ?_ _ | refine blk_drew ?_ | refine blk_alloc ?_ _)); refine blk_put (cs := #[.int .i64 ((rd_T35 l0 x10_1).f0), .int .i64 ((rd_T35 l0 x10_1).f1), .int .i64 ((rd_T35 l0 x10_1).f2), .int .i64 0]) ?_ 3 _ rfl; (with_reducible repeat (first | refine blk_drewN ?_ _ | refine blk_drew ?_ | refine blk_alloc ?_ _)); refine blk_put (cs := #[.int .i64 ((rd_T35 l0 x10_1).f0), .int .i64 ((rd_T35 l0 x10_1).f1), .int .i64 0, .int .i64 0]) ?_ 2 _ rfl; (with_reducible repeat (first | refine blk_drewN ?_ _ | refine blk_drew ?_ | refine blk_alloc ?_ _)); refine blk_put (cs := #[.int .i64 ((rd_T35 l0 x10_1).f0), .int .i64 0, .int .i64 0, .int .i64 0]) ?_ 1 _ rfl; (with_reducible repeat (first | refine blk_drewN ?_ _ | refine blk_drew ?_ | refine blk_alloc ?_ _)); refine blk_put (cs := #[.int .i64 0, .int .i64 0, .int .i64 0, .int .i64 0]) ?_ 0 _ rfl; (with_reducible repeat (first | refine blk_drewN ?_ _ | refine blk_drew ?_ | refine blk_alloc ?_ _)); exact BK121.out⟩, ⟨by repeat (first | (with_reducible first | exact HB.out | apply below_alloc | apply pw_below_drewN | apply below_drew1 | refine below_set ?_ GE121.out) | exact HB.out)⟩⟩
            case rest =>
              clear HC9
              try clear c1
              try clear p1
              try clear q1
              try clear hx1
              try clear p2
              try clear c5
              try clear c7
              try clear c7b0
              try clear c8
              try clear c8b0
              try clear c12
              try clear c12b0
              try clear c12b1
              try clear p12
              try clear q12
              try clear hx12
              try clear hcz11_0
              try clear hcz11_1
              try clear hcz11_2
              try clear hcz11_3
              try clear hcz13_0
              try clear hcz13_1
              try clear hcz13_2
              try clear hcz13_3
              try clear hcz14_0
              try clear hcz14_1
              try clear hcz14_2
              try clear hcz14_3
              try clear hfz11_0
              try clear hfz11_1
              try clear hfz11_2
              try clear hfz11_3
              try clear hfz13_0
              try clear hfz13_1
              try clear hfz13_2
              try clear hfz13_3
              try clear hfz14_0
              try clear hfz14_1
              try clear hfz14_2
              try clear hfz14_3
              try clear hx120_0
              try clear hx120_1
              try clear hx120_2
              try clear hx120_3
              try clear p120
              try clear p2
              try clear q120
              obtain ⟨kq, x37_8, rfl, HA, HJ8, BK121, HB⟩ := hcut
              cases kq with
              | zero => exact absurd HA.out (by simp [quartermasterref19_Sum.j1])
              | succ kj8 =>
                have H := HA.out
                clear HA
                simp only [quartermasterref19_Sum.j1] at H
                by_cases c15 : x37_8 = true
                · subst c15
                  have H1 : (quartermasterref19_Sum.l0 kj8 l0 a1 a2 x9_1 (wrap64 (x10_1 + 1))) = some (r1, r2) := by rw [if_pos rfl] at H; exact H
                  clear H
                  have H := H1
                  clear H1
                  have H' := Aside0.mk H
                  clear H
                  go_wp2
                  go_roundg kj8
                  case measure => have := HK1.out; have := HJ8.out; omega
                  case rel => exact ⟨(x9_1), (wrap64 (x10_1 + 1)), (by first | rfl | (simp; done) | (simp [*]; done)), (by first | rfl | (simp; done) | (simp [*]; done)), H', ⟨by have := HK1.out; have := HJ8.out; omega⟩, ⟨by repeat (first | (with_reducible first | exact HB.out | apply below_alloc | apply pw_below_drewN | apply below_drew1 | refine below_set ?_ GE121.out) | exact HB.out)⟩⟩
                · replace c15 := Bool.eq_false_iff.mpr c15
                  subst c15
                  have H1 : (if ((rd_T35 l0 x10_1).f0) = 1 then (quartermasterref19_Sum.j2 kj8 l0 a1 a2 x9_1 x10_1 ((rd_T35 l0 x10_1).f0) (((rd_T35 l0 x10_1).f0) == 1) ((rd_T35 l0 x10_1).f0) ((rd_T35 l0 x10_1).f1) ((rd_T35 l0 x10_1).f2) ((rd_T35 l0 x10_1).f3)) else (quartermasterref19_Sum.j2 kj8 l0 a1 a2 x9_1 x10_1 ((rd_T35 l0 x10_1).f0) (((rd_T35 l0 x10_1).f0) == 3) ((rd_T35 l0 x10_1).f0) ((rd_T35 l0 x10_1).f1) ((rd_T35 l0 x10_1).f2) ((rd_T35 l0 x10_1).f3))) = some (r1, r2) := by rw [if_neg (show ¬ (false = true) by decide)] at H; exact H
                  clear H
                  have H := H1
                  clear H1
                  have HC16 := Aside0.mk H
                  clear H
                  have hcz17_0 : wc.cell? ⟨gb121, 0, none⟩ = some (.int .i64 ((rd_T35 l0 x10_1).f0)) := (blk_cell BK121.out 0).trans rfl
                  have hcz17_1 : wc.cell? ⟨gb121, 1, none⟩ = some (.int .i64 ((rd_T35 l0 x10_1).f1)) := (blk_cell BK121.out 1).trans rfl
                  have hcz17_2 : wc.cell? ⟨gb121, 2, none⟩ = some (.int .i64 ((rd_T35 l0 x10_1).f2)) := (blk_cell BK121.out 2).trans rfl
                  have hcz17_3 : wc.cell? ⟨gb121, 3, none⟩ = some (.int .i64 ((rd_T35 l0 x10_1).f3)) := (blk_cell BK121.out 3).trans rfl
                  have hfz17_0 := blk_frozen BK121.out 0
                  have hfz17_1 := blk_frozen BK121.out 1
                  have hfz17_2 := blk_frozen BK121.out 2
                  have hfz17_3 := blk_frozen BK121.out 3
                  go_upto_if 58 with (fail)
                  go_cut [58] (fun v58 wc => ∃ (kq : Nat) (x58_15 : Bool), v58 = .bool x58_15 ∧ Aside0 (quartermasterref19_Sum.j2 kq l0 a1 a2 x9_1 x10_1 ((rd_T35 l0 x10_1).f0) x58_15 ((rd_T35 l0 x10_1).f0) ((rd_T35 l0 x10_1).f1) ((rd_T35 l0 x10_1).f2) ((rd_T35 l0 x10_1).f3) = some (r1, r2)) ∧ Aside0 (kq ≤ kj8) ∧ Aside0 (wc.heap[gb121]? = some (.cells #[.int .i64 ((rd_T35 l0 x10_1).f0), .int .i64 ((rd_T35 l0 x10_1).f1), .int .i64 ((rd_T35 l0 x10_1).f2), .int .i64 ((rd_T35 l0 x10_1).f3)] 35 (0, 0))) ∧ Aside0 (Below w.heap.size w wc))
                  case first =>
                    have H := HC16.out
                    clear HC16
                    by_cases c18 : ((rd_T35 l0 x10_1).f0) = 1
                    · rw [if_pos c18] at H
                      have c18b0 : (((rd_T35 l0 x10_1).f0) == 1) = true := beq_iff_eq.mpr c18
                      have c18b1 : (((rd_T35 l0 x10_1).f0) != 1) = false := bne_eq_false_iff_eq.mpr c18
                      clear c18
                      (first | rw [c18b0] | (simp only [i64_w, i32_w]; rw [c18b0]) | skip)
                      have H' := Aside0.mk H
                      clear H
                      go_wp2
                      go_meet
                      case rel => exact ⟨_, ((((rd_T35 l0 x10_1).f0) == 1)), (by first | rfl | (simp; done) | (simp [*]; done)), H', ⟨by have := HK1.out; have := HJ8.out; first | omega | exact Nat.le_refl _⟩, ⟨by (with_reducible repeat (first | refine blk_drewN ?_ _ | refine blk_drew ?_ | refine blk_alloc ?_ _)); exact BK121.out⟩, ⟨by repeat (first | (with_reducible first | exact HB.out | apply below_alloc | apply pw_below_drewN | apply below_drew1 | refine below_set ?_ GE121.out) | exact HB.out)⟩⟩
                    · rw [if_neg c18] at H
                      have c18b0 : (((rd_T35 l0 x10_1).f0) == 1) = false := beq_eq_false_iff_ne.mpr c18
                      have c18b1 : (((rd_T35 l0 x10_1).f0) != 1) = true := bne_iff_ne.mpr c18
                      (first | rw [c18b0] | (simp only [i64_w, i32_w]; rw [c18b0]) | skip)
                      have H' := Aside0.mk H
                      clear H
                      go_wp2
                      go_meet
                      case rel => exact ⟨_, ((((rd_T35 l0 x10_1).f0) == 3)), (by first | rfl | (simp; done) | (simp [*]; done)), H', ⟨by have := HK1.out; have := HJ8.out; first | omega | exact Nat.le_refl _⟩, ⟨by (with_reducible repeat (first | refine blk_drewN ?_ _ | refine blk_drew ?_ | refine blk_alloc ?_ _)); exact BK121.out⟩, ⟨by repeat (first | (with_reducible first | exact HB.out | apply below_alloc | apply pw_below_drewN | apply below_drew1 | refine below_set ?_ GE121.out) | exact HB.out)⟩⟩
                  case rest =>
                    clear HC16
                    try clear c1
                    try clear p1
                    try clear q1
                    try clear hx1
                    try clear p2
                    try clear c5
                    try clear p6
                    try clear c7
                    try clear c7b0
                    try clear c8
                    try clear c8b0
                    try clear c12
                    try clear c12b0
                    try clear c12b1
                    try clear p12
                    try clear q12
                    try clear hx12
                    try clear c15
                    try clear c16
                    try clear c18
                    try clear c18b0
                    try clear c18b1
                    try clear hcz11_0
                    try clear hcz11_1
                    try clear hcz11_2
                    try clear hcz11_3
                    try clear hcz13_0
                    try clear hcz13_1
                    try clear hcz13_2
                    try clear hcz13_3
                    try clear hcz14_0
                    try clear hcz14_1
                    try clear hcz14_2
                    try clear hcz14_3
                    try clear hcz17_0
                    try clear hcz17_1
                    try clear hcz17_2
                    try clear hcz17_3
                    try clear hfz11_0
                    try clear hfz11_1
                    try clear hfz11_2
                    try clear hfz11_3
                    try clear hfz13_0
                    try clear hfz13_1
                    try clear hfz13_2
                    try clear hfz13_3
                    try clear hfz14_0
                    try clear hfz14_1
                    try clear hfz14_2
                    try clear hfz14_3
                    try clear hfz17_0
                    try clear hfz17_1
                    try clear hfz17_2
                    try clear hfz17_3
                    try clear hx120_0
                    try clear hx120_1
                    try clear hx120_2
                    try clear hx120_3
                    try clear p1
                    try clear p12
                    try clear p120
                    try clear p2
                    try clear q1
                    try clear q12
                    try clear q120
                    obtain ⟨kq, x58_15, rfl, HA, HJ15, BK121, HB⟩ := hcut
                    cases kq with
                    | zero => exact absurd HA.out (by simp [quartermasterref19_Sum.j2])
                    | succ kj15 =>
                      have H := HA.out
                      clear HA
                      simp only [quartermasterref19_Sum.j2] at H
                      by_cases c19 : x58_15 = true
                      · subst c19
                        have H1 : ((quartermasterref16_Add.f kj15 x9_1 ((rd_T35 l0 x10_1).f3)).bind fun bt122 => (if bt122.2 = 0 then (quartermasterref19_Sum.l0 kj15 l0 a1 a2 bt122.1 (wrap64 (x10_1 + 1))) else (some (0, bt122.2)))) = some (r1, r2) := by rw [if_pos rfl] at H; exact H
                        clear H
                        have H := H1
                        clear H1
                        replace H := Option.bind_eq_some_iff.mp H
                        obtain ⟨⟨t122, t123⟩, A200, H⟩ := H
                        replace H : (if t123 = 0 then (quartermasterref19_Sum.l0 kj15 l0 a1 a2 t122 (wrap64 (x10_1 + 1))) else (some (0, t123))) = some (r1, r2) := H
                        have A20 := Aside0.mk A200
                        clear A200
                        by_cases c21 : t123 = 0
                        · rw [if_pos c21] at H
                          have c21b0 : (t123 == 0) = true := beq_iff_eq.mpr c21
                          have c21b1 : (t123 != 0) = false := bne_eq_false_iff_eq.mpr c21
                          clear c21
                          have H' := Aside0.mk H
                          clear H
                          have hcz22_0 : wc.cell? ⟨gb121, 0, none⟩ = some (.int .i64 ((rd_T35 l0 x10_1).f0)) := (blk_cell BK121.out 0).trans rfl
                          have hcz22_1 : wc.cell? ⟨gb121, 1, none⟩ = some (.int .i64 ((rd_T35 l0 x10_1).f1)) := (blk_cell BK121.out 1).trans rfl
                          have hcz22_2 : wc.cell? ⟨gb121, 2, none⟩ = some (.int .i64 ((rd_T35 l0 x10_1).f2)) := (blk_cell BK121.out 2).trans rfl
                          have hcz22_3 : wc.cell? ⟨gb121, 3, none⟩ = some (.int .i64 ((rd_T35 l0 x10_1).f3)) := (blk_cell BK121.out 3).trans rfl
                          have hfz22_0 := blk_frozen BK121.out 0
                          have hfz22_1 := blk_frozen BK121.out 1
                          have hfz22_2 := blk_frozen BK121.out 2
                          have hfz22_3 := blk_frozen BK121.out 3
                          go_wp2_with (first | ((with_reducible refine gate_callee (f := 24) rfl ?_); refine goesL_ (some 65) rfl rfl Try.func24 (by kernel_rfl) rfl #[.int .i64 x9_1, .int .i64 ((rd_T35 l0 x10_1).f3)] rfl (by (try simp only [List.map_toArray, List.map_cons, List.map_nil]); first | done | rfl | (simp only [List.length_drop, List.length_take]; rfl)) ?_; (with_reducible refine (quartermasterref16_Add.calls kj15 x9_1 ((rd_T35 l0 x10_1).f3) t122 t123 _ A20.out).mono ?_); rintro e w' ⟨rfl, ⟨nd, rfl⟩⟩; refine ⟨_, rfl, ?_⟩))
                          go_roundg kj15
                          case measure => have := HK1.out; have := HJ8.out; have := HJ15.out; omega
                          case rel => exact ⟨(t122), (wrap64 (x10_1 + 1)), (by first | rfl | (simp; done) | (simp [*]; done)), (by first | rfl | (simp; done) | (simp [*]; done)), H', ⟨by have := HK1.out; have := HJ8.out; have := HJ15.out; omega⟩, ⟨by repeat (first | (with_reducible first | exact HB.out | apply below_alloc | apply pw_below_drewN | apply below_drew1 | refine below_set ?_ GE121.out) | exact HB.out)⟩⟩
                        · rw [if_neg c21] at H
                          have c21b0 : (t123 == 0) = false := beq_eq_false_iff_ne.mpr c21
                          have c21b1 : (t123 != 0) = true := bne_iff_ne.mpr c21
                          simp only [Option.some.injEq, Prod.mk.injEq] at H
                          obtain ⟨rfl, rfl⟩ := H
                          have hcz23_0 : wc.cell? ⟨gb121, 0, none⟩ = some (.int .i64 ((rd_T35 l0 x10_1).f0)) := (blk_cell BK121.out 0).trans rfl
                          have hcz23_1 : wc.cell? ⟨gb121, 1, none⟩ = some (.int .i64 ((rd_T35 l0 x10_1).f1)) := (blk_cell BK121.out 1).trans rfl
                          have hcz23_2 : wc.cell? ⟨gb121, 2, none⟩ = some (.int .i64 ((rd_T35 l0 x10_1).f2)) := (blk_cell BK121.out 2).trans rfl
                          have hcz23_3 : wc.cell? ⟨gb121, 3, none⟩ = some (.int .i64 ((rd_T35 l0 x10_1).f3)) := (blk_cell BK121.out 3).trans rfl
                          have hfz23_0 := blk_frozen BK121.out 0
                          have hfz23_1 := blk_frozen BK121.out 1
                          have hfz23_2 := blk_frozen BK121.out 2
                          have hfz23_3 := blk_frozen BK121.out 3
                          go_wp2_with (first | ((with_reducible refine gate_callee (f := 24) rfl ?_); refine goesL_ (some 65) rfl rfl Try.func24 (by kernel_rfl) rfl #[.int .i64 x9_1, .int .i64 ((rd_T35 l0 x10_1).f3)] rfl (by (try simp only [List.map_toArray, List.map_cons, List.map_nil]); first | done | rfl | (simp only [List.length_drop, List.length_take]; rfl)) ?_; (with_reducible refine (quartermasterref16_Add.calls kj15 x9_1 ((rd_T35 l0 x10_1).f3) t122 t123 _ A20.out).mono ?_); rintro e w' ⟨rfl, ⟨nd, rfl⟩⟩; refine ⟨_, rfl, ?_⟩))
                          go_ret2
                          exact ⟨by first | rfl | (simp [errW_none, errW_some] <;> rfl) | (simp [*, errW_none, errW_some] <;> rfl), by repeat (first | (with_reducible first | exact HB.out | apply below_alloc | apply pw_below_drewN | apply below_drew1 | refine below_set ?_ GE121.out) | exact HB.out)⟩
                      · replace c19 := Bool.eq_false_iff.mpr c19
                        subst c19
                        have H1 : (if ((rd_T35 l0 x10_1).f0) = 4 then (quartermasterref19_Sum.j3 kj15 l0 a1 a2 x9_1 x10_1 (((rd_T35 l0 x10_1).f0) == 4) ((rd_T35 l0 x10_1).f0) ((rd_T35 l0 x10_1).f1) ((rd_T35 l0 x10_1).f2) ((rd_T35 l0 x10_1).f3)) else (quartermasterref19_Sum.j3 kj15 l0 a1 a2 x9_1 x10_1 (((rd_T35 l0 x10_1).f0) == 5) ((rd_T35 l0 x10_1).f0) ((rd_T35 l0 x10_1).f1) ((rd_T35 l0 x10_1).f2) ((rd_T35 l0 x10_1).f3))) = some (r1, r2) := by rw [if_neg (show ¬ (false = true) by decide)] at H; exact H
                        clear H
                        have H := H1
                        clear H1
                        have HC24 := Aside0.mk H
                        clear H
                        go_upto_if 68 with (fail)
                        go_cut [68] (fun v68 wc => ∃ (kq : Nat) (x68_23 : Bool), v68 = .bool x68_23 ∧ Aside0 (quartermasterref19_Sum.j3 kq l0 a1 a2 x9_1 x10_1 x68_23 ((rd_T35 l0 x10_1).f0) ((rd_T35 l0 x10_1).f1) ((rd_T35 l0 x10_1).f2) ((rd_T35 l0 x10_1).f3) = some (r1, r2)) ∧ Aside0 (kq ≤ kj15) ∧ Aside0 (wc.heap[gb121]? = some (.cells #[.int .i64 ((rd_T35 l0 x10_1).f0), .int .i64 ((rd_T35 l0 x10_1).f1), .int .i64 ((rd_T35 l0 x10_1).f2), .int .i64 ((rd_T35 l0 x10_1).f3)] 35 (0, 0))) ∧ Aside0 (Below w.heap.size w wc))
                        case first =>
                          have H := HC24.out
                          clear HC24
                          by_cases c25 : ((rd_T35 l0 x10_1).f0) = 4
                          · rw [if_pos c25] at H
                            have c25b0 : (((rd_T35 l0 x10_1).f0) == 4) = true := beq_iff_eq.mpr c25
                            have c25b1 : (((rd_T35 l0 x10_1).f0) != 4) = false := bne_eq_false_iff_eq.mpr c25
                            clear c25
                            (first | rw [c25b0] | (simp only [i64_w, i32_w]; rw [c25b0]) | skip)
                            have H' := Aside0.mk H
                            clear H
                            go_wp2
                            go_meet
                            case rel => exact ⟨_, ((((rd_T35 l0 x10_1).f0) == 4)), (by first | rfl | (simp; done) | (simp [*]; done)), H', ⟨by have := HK1.out; have := HJ8.out; have := HJ15.out; first | omega | exact Nat.le_refl _⟩, ⟨by (with_reducible repeat (first | refine blk_drewN ?_ _ | refine blk_drew ?_ | refine blk_alloc ?_ _)); exact BK121.out⟩, ⟨by repeat (first | (with_reducible first | exact HB.out | apply below_alloc | apply pw_below_drewN | apply below_drew1 | refine below_set ?_ GE121.out) | exact HB.out)⟩⟩
                          · rw [if_neg c25] at H
                            have c25b0 : (((rd_T35 l0 x10_1).f0) == 4) = false := beq_eq_false_iff_ne.mpr c25
                            have c25b1 : (((rd_T35 l0 x10_1).f0) != 4) = true := bne_iff_ne.mpr c25
                            (first | rw [c25b0] | (simp only [i64_w, i32_w]; rw [c25b0]) | skip)
                            have H' := Aside0.mk H
                            clear H
                            go_wp2
                            go_meet
                            case rel => exact ⟨_, ((((rd_T35 l0 x10_1).f0) == 5)), (by first | rfl | (simp; done) | (simp [*]; done)), H', ⟨by have := HK1.out; have := HJ8.out; have := HJ15.out; first | omega | exact Nat.le_refl _⟩, ⟨by (with_reducible repeat (first | refine blk_drewN ?_ _ | refine blk_drew ?_ | refine blk_alloc ?_ _)); exact BK121.out⟩, ⟨by repeat (first | (with_reducible first | exact HB.out | apply below_alloc | apply pw_below_drewN | apply below_drew1 | refine below_set ?_ GE121.out) | exact HB.out)⟩⟩
                        case rest =>
                          clear HC24
                          try clear c1
                          try clear p1
                          try clear q1
                          try clear hx1
                          try clear c2
                          try clear p2
                          try clear c5
                          try clear p6
                          try clear c7
                          try clear c7b0
                          try clear c8
                          try clear c8b0
                          try clear c12
                          try clear c12b0
                          try clear c12b1
                          try clear p12
                          try clear q12
                          try clear hx12
                          try clear c15
                          try clear c16
                          try clear c18
                          try clear c18b0
                          try clear c18b1
                          try clear c19
                          try clear c21
                          try clear c21b0
                          try clear c21b1
                          try clear c24
                          try clear c25
                          try clear c25b0
                          try clear c25b1
                          try clear hcz11_0
                          try clear hcz11_1
                          try clear hcz11_2
                          try clear hcz11_3
                          try clear hcz13_0
                          try clear hcz13_1
                          try clear hcz13_2
                          try clear hcz13_3
                          try clear hcz14_0
                          try clear hcz14_1
                          try clear hcz14_2
                          try clear hcz14_3
                          try clear hcz17_0
                          try clear hcz17_1
                          try clear hcz17_2
                          try clear hcz17_3
                          try clear hcz22_0
                          try clear hcz22_1
                          try clear hcz22_2
                          try clear hcz22_3
                          try clear hcz23_0
                          try clear hcz23_1
                          try clear hcz23_2
                          try clear hcz23_3
                          try clear hfz11_0
                          try clear hfz11_1
                          try clear hfz11_2
                          try clear hfz11_3
                          try clear hfz13_0
                          try clear hfz13_1
                          try clear hfz13_2
                          try clear hfz13_3
                          try clear hfz14_0
                          try clear hfz14_1
                          try clear hfz14_2
                          try clear hfz14_3
                          try clear hfz17_0
                          try clear hfz17_1
                          try clear hfz17_2
                          try clear hfz17_3
                          try clear hfz22_0
                          try clear hfz22_1
                          try clear hfz22_2
                          try clear hfz22_3
                          try clear hfz23_0
                          try clear hfz23_1
                          try clear hfz23_2
                          try clear hfz23_3
                          try clear hx120_0
                          try clear hx120_1
                          try clear hx120_2
                          try clear hx120_3
                          try clear p1
                          try clear p12
                          try clear p120
                          try clear p2
                          try clear p6
                          try clear q1
                          try clear q12
                          try clear q120
                          obtain ⟨kq, x68_23, rfl, HA, HJ23, BK121, HB⟩ := hcut
                          cases kq with
                          | zero => exact absurd HA.out (by simp [quartermasterref19_Sum.j3])
                          | succ kj23 =>
                            have H := HA.out
                            clear HA
                            simp only [quartermasterref19_Sum.j3] at H
                            by_cases c26 : x68_23 = true
                            · subst c26
                              have H1 : ((quartermasterref16_Sub.f kj23 x9_1 ((rd_T35 l0 x10_1).f3)).bind fun bt124 => (if bt124.2 = 0 then (quartermasterref19_Sum.l0 kj23 l0 a1 a2 bt124.1 (wrap64 (x10_1 + 1))) else (some (0, bt124.2)))) = some (r1, r2) := by rw [if_pos rfl] at H; exact H
                              clear H
                              have H := H1
                              clear H1
                              replace H := Option.bind_eq_some_iff.mp H
                              obtain ⟨⟨t124, t125⟩, A270, H⟩ := H
                              replace H : (if t125 = 0 then (quartermasterref19_Sum.l0 kj23 l0 a1 a2 t124 (wrap64 (x10_1 + 1))) else (some (0, t125))) = some (r1, r2) := H
                              have A27 := Aside0.mk A270
                              clear A270
                              by_cases c28 : t125 = 0
                              · rw [if_pos c28] at H
                                have c28b0 : (t125 == 0) = true := beq_iff_eq.mpr c28
                                have c28b1 : (t125 != 0) = false := bne_eq_false_iff_eq.mpr c28
                                clear c28
                                have H' := Aside0.mk H
                                clear H
                                have hcz29_0 : wc.cell? ⟨gb121, 0, none⟩ = some (.int .i64 ((rd_T35 l0 x10_1).f0)) := (blk_cell BK121.out 0).trans rfl
                                have hcz29_1 : wc.cell? ⟨gb121, 1, none⟩ = some (.int .i64 ((rd_T35 l0 x10_1).f1)) := (blk_cell BK121.out 1).trans rfl
                                have hcz29_2 : wc.cell? ⟨gb121, 2, none⟩ = some (.int .i64 ((rd_T35 l0 x10_1).f2)) := (blk_cell BK121.out 2).trans rfl
                                have hcz29_3 : wc.cell? ⟨gb121, 3, none⟩ = some (.int .i64 ((rd_T35 l0 x10_1).f3)) := (blk_cell BK121.out 3).trans rfl
                                have hfz29_0 := blk_frozen BK121.out 0
                                have hfz29_1 := blk_frozen BK121.out 1
                                have hfz29_2 := blk_frozen BK121.out 2
                                have hfz29_3 := blk_frozen BK121.out 3
                                go_wp2_with (first | ((with_reducible refine gate_callee (f := 25) rfl ?_); refine goesL_ (some 75) rfl rfl Try.func25 (by kernel_rfl) rfl #[.int .i64 x9_1, .int .i64 ((rd_T35 l0 x10_1).f3)] rfl (by (try simp only [List.map_toArray, List.map_cons, List.map_nil]); first | done | rfl | (simp only [List.length_drop, List.length_take]; rfl)) ?_; (with_reducible refine (quartermasterref16_Sub.calls kj23 x9_1 ((rd_T35 l0 x10_1).f3) t124 t125 _ A27.out).mono ?_); rintro e w' ⟨rfl, ⟨nd, rfl⟩⟩; refine ⟨_, rfl, ?_⟩))
                                go_roundg kj23
                                case measure => have := HK1.out; have := HJ8.out; have := HJ15.out; have := HJ23.out; omega
                                case rel => exact ⟨(t124), (wrap64 (x10_1 + 1)), (by first | rfl | (simp; done) | (simp [*]; done)), (by first | rfl | (simp; done) | (simp [*]; done)), H', ⟨by have := HK1.out; have := HJ8.out; have := HJ15.out; have := HJ23.out; omega⟩, ⟨by repeat (first | (with_reducible first | exact HB.out | apply below_alloc | apply pw_below_drewN | apply below_drew1 | refine below_set ?_ GE121.out) | exact HB.out)⟩⟩
                              · rw [if_neg c28] at H
                                have c28b0 : (t125 == 0) = false := beq_eq_false_iff_ne.mpr c28
                                have c28b1 : (t125 != 0) = true := bne_iff_ne.mpr c28
                                simp only [Option.some.injEq, Prod.mk.injEq] at H
                                obtain ⟨rfl, rfl⟩ := H
                                have hcz30_0 : wc.cell? ⟨gb121, 0, none⟩ = some (.int .i64 ((rd_T35 l0 x10_1).f0)) := (blk_cell BK121.out 0).trans rfl
                                have hcz30_1 : wc.cell? ⟨gb121, 1, none⟩ = some (.int .i64 ((rd_T35 l0 x10_1).f1)) := (blk_cell BK121.out 1).trans rfl
                                have hcz30_2 : wc.cell? ⟨gb121, 2, none⟩ = some (.int .i64 ((rd_T35 l0 x10_1).f2)) := (blk_cell BK121.out 2).trans rfl
                                have hcz30_3 : wc.cell? ⟨gb121, 3, none⟩ = some (.int .i64 ((rd_T35 l0 x10_1).f3)) := (blk_cell BK121.out 3).trans rfl
                                have hfz30_0 := blk_frozen BK121.out 0
                                have hfz30_1 := blk_frozen BK121.out 1
                                have hfz30_2 := blk_frozen BK121.out 2
                                have hfz30_3 := blk_frozen BK121.out 3
                                go_wp2_with (first | ((with_reducible refine gate_callee (f := 25) rfl ?_); refine goesL_ (some 75) rfl rfl Try.func25 (by kernel_rfl) rfl #[.int .i64 x9_1, .int .i64 ((rd_T35 l0 x10_1).f3)] rfl (by (try simp only [List.map_toArray, List.map_cons, List.map_nil]); first | done | rfl | (simp only [List.length_drop, List.length_take]; rfl)) ?_; (with_reducible refine (quartermasterref16_Sub.calls kj23 x9_1 ((rd_T35 l0 x10_1).f3) t124 t125 _ A27.out).mono ?_); rintro e w' ⟨rfl, ⟨nd, rfl⟩⟩; refine ⟨_, rfl, ?_⟩))
                                go_ret2
                                exact ⟨by first | rfl | (simp [errW_none, errW_some] <;> rfl) | (simp [*, errW_none, errW_some] <;> rfl), by repeat (first | (with_reducible first | exact HB.out | apply below_alloc | apply pw_below_drewN | apply below_drew1 | refine below_set ?_ GE121.out) | exact HB.out)⟩
                            · replace c26 := Bool.eq_false_iff.mpr c26
                              subst c26
                              have H1 : (if ((rd_T35 l0 x10_1).f3) > 0 then ((quartermasterref16_Add.f kj23 x9_1 ((rd_T35 l0 x10_1).f3)).bind fun bt126 => (if bt126.2 = 0 then (quartermasterref19_Sum.l0 kj23 l0 a1 a2 bt126.1 (wrap64 (x10_1 + 1))) else (some (0, bt126.2)))) else ((quartermasterref16_Sub.f kj23 x9_1 (wrap64 (-((rd_T35 l0 x10_1).f3)))).bind fun bt128 => (if bt128.2 = 0 then (quartermasterref19_Sum.l0 kj23 l0 a1 a2 bt128.1 (wrap64 (x10_1 + 1))) else (some (0, bt128.2))))) = some (r1, r2) := by rw [if_neg (show ¬ (false = true) by decide)] at H; exact H
                              clear H
                              have H := H1
                              clear H1
                              by_cases c31 : ((rd_T35 l0 x10_1).f3) > 0
                              · rw [if_pos c31] at H
                                have c31b0 : decide (0 < ((rd_T35 l0 x10_1).f3)) = true := decide_eq_true c31
                                clear c31
                                replace H := Option.bind_eq_some_iff.mp H
                                obtain ⟨⟨t126, t127⟩, A320, H⟩ := H
                                replace H : (if t127 = 0 then (quartermasterref19_Sum.l0 kj23 l0 a1 a2 t126 (wrap64 (x10_1 + 1))) else (some (0, t127))) = some (r1, r2) := H
                                have A32 := Aside0.mk A320
                                clear A320
                                by_cases c33 : t127 = 0
                                · rw [if_pos c33] at H
                                  have c33b0 : (t127 == 0) = true := beq_iff_eq.mpr c33
                                  have c33b1 : (t127 != 0) = false := bne_eq_false_iff_eq.mpr c33
                                  clear c33
                                  have H' := Aside0.mk H
                                  clear H
                                  have hcz34_0 : wc.cell? ⟨gb121, 0, none⟩ = some (.int .i64 ((rd_T35 l0 x10_1).f0)) := (blk_cell BK121.out 0).trans rfl
                                  have hcz34_1 : wc.cell? ⟨gb121, 1, none⟩ = some (.int .i64 ((rd_T35 l0 x10_1).f1)) := (blk_cell BK121.out 1).trans rfl
                                  have hcz34_2 : wc.cell? ⟨gb121, 2, none⟩ = some (.int .i64 ((rd_T35 l0 x10_1).f2)) := (blk_cell BK121.out 2).trans rfl
                                  have hcz34_3 : wc.cell? ⟨gb121, 3, none⟩ = some (.int .i64 ((rd_T35 l0 x10_1).f3)) := (blk_cell BK121.out 3).trans rfl
                                  have hfz34_0 := blk_frozen BK121.out 0
                                  have hfz34_1 := blk_frozen BK121.out 1
                                  have hfz34_2 := blk_frozen BK121.out 2
                                  have hfz34_3 := blk_frozen BK121.out 3
                                  go_wp2_with (first | ((with_reducible refine gate_callee (f := 24) rfl ?_); refine goesL_ (some 47) rfl rfl Try.func24 (by kernel_rfl) rfl #[.int .i64 x9_1, .int .i64 ((rd_T35 l0 x10_1).f3)] rfl (by (try simp only [List.map_toArray, List.map_cons, List.map_nil]); first | done | rfl | (simp only [List.length_drop, List.length_take]; rfl)) ?_; (with_reducible refine (quartermasterref16_Add.calls kj23 x9_1 ((rd_T35 l0 x10_1).f3) t126 t127 _ A32.out).mono ?_); rintro e w' ⟨rfl, ⟨nd, rfl⟩⟩; refine ⟨_, rfl, ?_⟩))
                                  go_roundg kj23
                                  case measure => have := HK1.out; have := HJ8.out; have := HJ15.out; have := HJ23.out; omega
                                  case rel => exact ⟨(t126), (wrap64 (x10_1 + 1)), (by first | rfl | (simp; done) | (simp [*]; done)), (by first | rfl | (simp; done) | (simp [*]; done)), H', ⟨by have := HK1.out; have := HJ8.out; have := HJ15.out; have := HJ23.out; omega⟩, ⟨by repeat (first | (with_reducible first | exact HB.out | apply below_alloc | apply pw_below_drewN | apply below_drew1 | refine below_set ?_ GE121.out) | exact HB.out)⟩⟩
                                · rw [if_neg c33] at H
                                  have c33b0 : (t127 == 0) = false := beq_eq_false_iff_ne.mpr c33
                                  have c33b1 : (t127 != 0) = true := bne_iff_ne.mpr c33
                                  simp only [Option.some.injEq, Prod.mk.injEq] at H
                                  obtain ⟨rfl, rfl⟩ := H
                                  have hcz35_0 : wc.cell? ⟨gb121, 0, none⟩ = some (.int .i64 ((rd_T35 l0 x10_1).f0)) := (blk_cell BK121.out 0).trans rfl
                                  have hcz35_1 : wc.cell? ⟨gb121, 1, none⟩ = some (.int .i64 ((rd_T35 l0 x10_1).f1)) := (blk_cell BK121.out 1).trans rfl
                                  have hcz35_2 : wc.cell? ⟨gb121, 2, none⟩ = some (.int .i64 ((rd_T35 l0 x10_1).f2)) := (blk_cell BK121.out 2).trans rfl
                                  have hcz35_3 : wc.cell? ⟨gb121, 3, none⟩ = some (.int .i64 ((rd_T35 l0 x10_1).f3)) := (blk_cell BK121.out 3).trans rfl
                                  have hfz35_0 := blk_frozen BK121.out 0
                                  have hfz35_1 := blk_frozen BK121.out 1
                                  have hfz35_2 := blk_frozen BK121.out 2
                                  have hfz35_3 := blk_frozen BK121.out 3
                                  go_wp2_with (first | ((with_reducible refine gate_callee (f := 24) rfl ?_); refine goesL_ (some 47) rfl rfl Try.func24 (by kernel_rfl) rfl #[.int .i64 x9_1, .int .i64 ((rd_T35 l0 x10_1).f3)] rfl (by (try simp only [List.map_toArray, List.map_cons, List.map_nil]); first | done | rfl | (simp only [List.length_drop, List.length_take]; rfl)) ?_; (with_reducible refine (quartermasterref16_Add.calls kj23 x9_1 ((rd_T35 l0 x10_1).f3) t126 t127 _ A32.out).mono ?_); rintro e w' ⟨rfl, ⟨nd, rfl⟩⟩; refine ⟨_, rfl, ?_⟩))
                                  go_ret2
                                  exact ⟨by first | rfl | (simp [errW_none, errW_some] <;> rfl) | (simp [*, errW_none, errW_some] <;> rfl), by repeat (first | (with_reducible first | exact HB.out | apply below_alloc | apply pw_below_drewN | apply below_drew1 | refine below_set ?_ GE121.out) | exact HB.out)⟩
                              · rw [if_neg c31] at H
                                have c31b0 : decide (0 < ((rd_T35 l0 x10_1).f3)) = false := decide_eq_false c31
                                clear c31
                                replace H := Option.bind_eq_some_iff.mp H
                                obtain ⟨⟨t128, t129⟩, A360, H⟩ := H
                                replace H : (if t129 = 0 then (quartermasterref19_Sum.l0 kj23 l0 a1 a2 t128 (wrap64 (x10_1 + 1))) else (some (0, t129))) = some (r1, r2) := H
                                have A36 := Aside0.mk A360
                                clear A360
                                by_cases c37 : t129 = 0
                                · rw [if_pos c37] at H
                                  have c37b0 : (t129 == 0) = true := beq_iff_eq.mpr c37
                                  have c37b1 : (t129 != 0) = false := bne_eq_false_iff_eq.mpr c37
                                  clear c37
                                  have H' := Aside0.mk H
                                  clear H
                                  have hcz38_0 : wc.cell? ⟨gb121, 0, none⟩ = some (.int .i64 ((rd_T35 l0 x10_1).f0)) := (blk_cell BK121.out 0).trans rfl
                                  have hcz38_1 : wc.cell? ⟨gb121, 1, none⟩ = some (.int .i64 ((rd_T35 l0 x10_1).f1)) := (blk_cell BK121.out 1).trans rfl
                                  have hcz38_2 : wc.cell? ⟨gb121, 2, none⟩ = some (.int .i64 ((rd_T35 l0 x10_1).f2)) := (blk_cell BK121.out 2).trans rfl
                                  have hcz38_3 : wc.cell? ⟨gb121, 3, none⟩ = some (.int .i64 ((rd_T35 l0 x10_1).f3)) := (blk_cell BK121.out 3).trans rfl
                                  have hfz38_0 := blk_frozen BK121.out 0
                                  have hfz38_1 := blk_frozen BK121.out 1
                                  have hfz38_2 := blk_frozen BK121.out 2
                                  have hfz38_3 := blk_frozen BK121.out 3
                                  go_wp2_with (first | ((with_reducible refine gate_callee (f := 25) rfl ?_); refine goesL_ (some 55) rfl rfl Try.func25 (by kernel_rfl) rfl #[.int .i64 x9_1, .int .i64 (wrap64 (-((rd_T35 l0 x10_1).f3)))] rfl (by (try simp only [List.map_toArray, List.map_cons, List.map_nil]); first | done | rfl | (simp only [List.length_drop, List.length_take]; rfl)) ?_; (with_reducible refine (quartermasterref16_Sub.calls kj23 x9_1 (wrap64 (-((rd_T35 l0 x10_1).f3))) t128 t129 _ A36.out).mono ?_); rintro e w' ⟨rfl, ⟨nd, rfl⟩⟩; refine ⟨_, rfl, ?_⟩))
                                  go_roundg kj23
                                  case measure => have := HK1.out; have := HJ8.out; have := HJ15.out; have := HJ23.out; omega
                                  case rel => exact ⟨(t128), (wrap64 (x10_1 + 1)), (by first | rfl | (simp; done) | (simp [*]; done)), (by first | rfl | (simp; done) | (simp [*]; done)), H', ⟨by have := HK1.out; have := HJ8.out; have := HJ15.out; have := HJ23.out; omega⟩, ⟨by repeat (first | (with_reducible first | exact HB.out | apply below_alloc | apply pw_below_drewN | apply below_drew1 | refine below_set ?_ GE121.out) | exact HB.out)⟩⟩
                                · rw [if_neg c37] at H
                                  have c37b0 : (t129 == 0) = false := beq_eq_false_iff_ne.mpr c37
                                  have c37b1 : (t129 != 0) = true := bne_iff_ne.mpr c37
                                  simp only [Option.some.injEq, Prod.mk.injEq] at H
                                  obtain ⟨rfl, rfl⟩ := H
                                  have hcz39_0 : wc.cell? ⟨gb121, 0, none⟩ = some (.int .i64 ((rd_T35 l0 x10_1).f0)) := (blk_cell BK121.out 0).trans rfl
                                  have hcz39_1 : wc.cell? ⟨gb121, 1, none⟩ = some (.int .i64 ((rd_T35 l0 x10_1).f1)) := (blk_cell BK121.out 1).trans rfl
                                  have hcz39_2 : wc.cell? ⟨gb121, 2, none⟩ = some (.int .i64 ((rd_T35 l0 x10_1).f2)) := (blk_cell BK121.out 2).trans rfl
                                  have hcz39_3 : wc.cell? ⟨gb121, 3, none⟩ = some (.int .i64 ((rd_T35 l0 x10_1).f3)) := (blk_cell BK121.out 3).trans rfl
                                  have hfz39_0 := blk_frozen BK121.out 0
                                  have hfz39_1 := blk_frozen BK121.out 1
                                  have hfz39_2 := blk_frozen BK121.out 2
                                  have hfz39_3 := blk_frozen BK121.out 3
                                  go_wp2_with (first | ((with_reducible refine gate_callee (f := 25) rfl ?_); refine goesL_ (some 55) rfl rfl Try.func25 (by kernel_rfl) rfl #[.int .i64 x9_1, .int .i64 (wrap64 (-((rd_T35 l0 x10_1).f3)))] rfl (by (try simp only [List.map_toArray, List.map_cons, List.map_nil]); first | done | rfl | (simp only [List.length_drop, List.length_take]; rfl)) ?_; (with_reducible refine (quartermasterref16_Sub.calls kj23 x9_1 (wrap64 (-((rd_T35 l0 x10_1).f3))) t128 t129 _ A36.out).mono ?_); rintro e w' ⟨rfl, ⟨nd, rfl⟩⟩; refine ⟨_, rfl, ?_⟩))
                                  go_ret2
                                  exact ⟨by first | rfl | (simp [errW_none, errW_some] <;> rfl) | (simp [*, errW_none, errW_some] <;> rfl), by repeat (first | (with_reducible first | exact HB.out | apply below_alloc | apply pw_below_drewN | apply below_drew1 | refine below_set ?_ GE121.out) | exact HB.out)⟩
          · rw [if_neg c8] at H
            exact absurd H (by simp)
        · rw [if_neg c7] at H
          have c7b0 : decide (x10_1 < (l0.length : Int)) = false := decide_eq_false c7
          clear c7
          simp only [Option.some.injEq, Prod.mk.injEq] at H
          obtain ⟨rfl, rfl⟩ := H
          go_wp2
          go_ret2
          exact ⟨by first | rfl | (simp [errW_none, errW_some] <;> rfl) | (simp [*, errW_none, errW_some] <;> rfl), by repeat (first | (with_reducible first | exact HB.out | apply below_alloc | apply pw_below_drewN | apply below_drew1) | exact HB.out)⟩
  · replace c5 := Bool.eq_false_iff.mpr c5
    subst c5
    have H1 : (some (0, 1)) = some (r1, r2) := by rw [if_neg (show ¬ (false = true) by decide)] at H; exact H
    clear H
    have H := H1
    clear H1
    simp only [Option.some.injEq, Prod.mk.injEq] at H
    obtain ⟨rfl, rfl⟩ := H
    go_enter Try.func12, Try.ntmps12
    go_wp2_with (first | ((with_reducible refine gate_callee (f := 16) rfl ?_); refine goesL_ (some 15) rfl rfl Try.func16 (by kernel_rfl) rfl #[.slice A0 l0.length c0] rfl (by (try simp only [List.map_toArray, List.map_cons, List.map_nil]); first | done | rfl | (simp only [List.length_drop, List.length_take]; rfl)) ?_; (with_reducible refine (quartermasterref19_May.calls k _ _ l0 false _ ?side1 ?side2 A4.out).mono ?_); (case side1 => repeat (first | exact HR0.out | (with_reducible refine Kd.C_alloc ?_ _) | (with_reducible refine Kd.C_drewN ?_ _) | (with_reducible refine Kd.C_drew ?_))); (case side2 => exact HC0.out); rintro e w40 ⟨rfl, hb⟩; refine ⟨_, rfl, ?_⟩; have n0_ := Aside0.mk (below_step (by repeat (first | (with_reducible first | exact HB.out | apply below_alloc | apply pw_below_drewN | apply below_drew1) | exact HB.out)) hb); clear HB; have HB := n0_; clear n0_; (try clear hb); (try clear hb2); (try clear hk); (try clear hi)))
    go_ret2
    exact ⟨by first | rfl | (simp [errW_none, errW_some] <;> rfl) | (simp [*, errW_none, errW_some] <;> rfl), by repeat (first | (with_reducible first | exact HB.out | apply below_alloc | apply pw_below_drewN | apply below_drew1) | exact HB.out)⟩

end Go.Proofs.Ythgganjnodoldaa.Pa
