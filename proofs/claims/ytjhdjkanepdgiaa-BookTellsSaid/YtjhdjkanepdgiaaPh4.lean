/- Plain functions, and the walks that show that the Go functions come to them: written by this session's program wip/myprint.py, which runs the kit's print over the translation. No conditions beside those that each contract states. -/
import Derived.Test.YtjhdjkanepdgiaaPh0
import Derived.Test.YtjhdjkanepdgiaaPh2
import Derived.Test.YtjhdjkanepdgiaaBookExt
import Derived.Test.YtjhdjkanepdgiaaBookExt2
import Derived.Test.YtjhdjkanepdgiaaBookExt3
import Derived.Test.YtjhdjkanepdgiaaPa0
import Derived.Test.YtjhdjkanepdgiaaPa1
import Derived.Test.YtjhdjkanepdgiaaPa2
import Derived.Test.YtjhdjkanepdgiaaPa3
import Derived.Test.YtjhdjkanepdgiaaPa4
import Derived.Test.YtjhdjkanepdgiaaPa4o
import Derived.Test.YtjhdjkanepdgiaaPb0
import Derived.Test.YtjhdjkanepdgiaaPb1
import Derived.Test.YtjhdjkanepdgiaaPb2
import Derived.Test.YtjhdjkanepdgiaaPb3
import Derived.Test.YtjhdjkanepdgiaaPaq
namespace Go.Proofs.Ytjhdjkanepdgiaa.Ph
open Go.Proofs.Ytjhdjkanepdgiaa.Pa Go.Proofs.Ytjhdjkanepdgiaa.Ext
open Go.RowKit Go.Proofs.YtjhdjkanepdgiaaW.PrintWords Go.Proofs.YtjhdjkanepdgiaaW.PrintLast Go.Proofs.YtjhdjkanepdgiaaW.PrintMore
attribute [local go_sem] max2_int min2_int max_two min_two max_three min_three max_four min_four   -- for this text's walks alone
set_option linter.unusedVariables false
set_option linter.unusedSimpArgs false
 
/-! ### quartermasterref18_Close: function 18 -/
def quartermasterref18_Close.l0 : Nat → List (S25) → Int → List (S33) → Int → Option ((List (S25)) × (List (S33)) × Int)
 | 0, _, _, _, _ => none
 | k + 1, x0, x8, x9, x10 => if 0 ≤ x8 then (if x8 < (x0.length : Int) then (if x10 < (((rd_T25 x0 x8).f2).length : Int) then (if 0 ≤ x10 then (if ((rd_T33 ((rd_T25 x0 x8).f2) x10).f2) > 0 then (if x9.length < 5864062014805 then (quartermasterref18_Close.l0 k x0 x8 (x9 ++ [(⟨(rd_T33 ((rd_T25 x0 x8).f2) x10).f0, (rd_T33 ((rd_T25 x0 x8).f2) x10).f1, (rd_T33 ((rd_T25 x0 x8).f2) x10).f2⟩ : S33)]) (wrap64 (x10 + 1))) else (none)) else (quartermasterref18_Close.l0 k x0 x8 x9 (wrap64 (x10 + 1)))) else (none)) else ((quartermasterref18_without.f x0 x8).bind fun t191 => (some (t191, x9, 0)))) else (none)) else (none)
def quartermasterref18_Close.f (k : Nat) (l0 : List (S25)) (a1 : Int) : Option ((List (S25)) × (List (S33)) × Int) := (Pa.quartermasterref18_May.f k l0).bind fun t181 => (if t181 = true then ((Pa.quartermasterref18_At.f k l0 a1).bind fun t182 => (if t182 < 0 then (some (([] : List (S25)), ([] : List (S33)), 3)) else (quartermasterref18_Close.l0 k l0 t182 ([] : List (S33)) 0))) else (some (([] : List (S25)), ([] : List (S33)), 1)))
theorem quartermasterref18_Close.mono_l : ∀ k, (∀ y0 y1 y2 y3, LeO (quartermasterref18_Close.l0 k y0 y1 y2 y3) (quartermasterref18_Close.l0 (k + 1) y0 y1 y2 y3))
 | 0 => fun _ _ _ _ r h => by simp [quartermasterref18_Close.l0] at h
 | k + 1 => by
  have ih0 := quartermasterref18_Close.mono_l k
  intro y0 y1 y2 y3
  unfold quartermasterref18_Close.l0
  repeat' first
  | (with_reducible exact ih0 _ _ _ _)
  | (with_reducible exact Pa.quartermasterref18_At.mono _ _ _)
  | (with_reducible exact Pa.quartermasterref18_May.mono _ _)
  | (with_reducible exact LeO.refl _)
  | (with_reducible exact LeO.none _)
  | (with_reducible refine LeO.ite ?_ ?_)
  | (with_reducible refine LeO.bind ?_ (fun _ => ?_))
  | exact ih0 _ _ _ _
  | exact Pa.quartermasterref18_At.mono _ _ _
  | exact Pa.quartermasterref18_May.mono _ _
  | exact LeO.none _
  | refine LeO.ite ?_ ?_
  | refine LeO.bind ?_ (fun _ => ?_)
theorem quartermasterref18_Close.mono : ∀ a0 a1 k, LeO (quartermasterref18_Close.f k a0 a1) (quartermasterref18_Close.f (k + 1) a0 a1) := by
 intro a0 a1 k
 have ih0 := quartermasterref18_Close.mono_l k
 unfold quartermasterref18_Close.f
 repeat' first
  | (with_reducible exact ih0 _ _ _ _)
  | (with_reducible exact Pa.quartermasterref18_At.mono _ _ _)
  | (with_reducible exact Pa.quartermasterref18_May.mono _ _)
  | (with_reducible exact LeO.refl _)
  | (with_reducible exact LeO.none _)
  | (with_reducible refine LeO.ite ?_ ?_)
  | (with_reducible refine LeO.bind ?_ (fun _ => ?_))
  | exact ih0 _ _ _ _
  | exact Pa.quartermasterref18_At.mono _ _ _
  | exact Pa.quartermasterref18_May.mono _ _
  | exact LeO.none _
  | refine LeO.ite ?_ ?_
  | refine LeO.bind ?_ (fun _ => ?_)
set_option maxHeartbeats 8000000 in
set_option maxRecDepth 100000 in
theorem quartermasterref18_Close.calls (k : Nat) (P0_ : Nat → Prop) (A0 : Option Addr) (c0 : Nat) (l0 : List (S25)) (a1 : Int) (r1 : List (S25)) (r2 : List (S33)) (r3 : Int) (w : World) (hs0 : Kd.V k25 25 w w.heap.size (fun k_ => P0_ k_) (.slice A0 l0.length c0) l0) (h : quartermasterref18_Close.f k l0 a1 = some (r1, r2, r3)) :
 Calls Try.prog 18 #[.slice A0 l0.length c0, .int .i64 a1] w fun e w' => ∃ v0_ v1_ : Value, e = .returned (.tuple #[v0_, v1_, .int .i64 r3]) ∧ Kd.N k25 25 w' w.heap.size (fun k_ => (P0_ k_ ∨ w.heap.size ≤ k_) ∧ some k_ ≠ (v1_ : Value).ownBlock) v0_ r1 ∧ Kd.R k33 33 w' w.heap.size (fun k_ => (w.heap.size ≤ k_)) v1_ r2 ∧ Below w.heap.size w w' := by
 have hu33 := Try.underlying33
 have HO0 := Aside0.mk (show Kd.V k25 25 w w.heap.size (fun k_ => (P0_ k_ ∨ w.heap.size ≤ k_)) (.slice A0 l0.length c0) l0 from Kd.V_mono hs0 (fun k_ hk => .inl hk))
 have HB := Aside0.mk (Below.refl w.heap.size w)
 have H : ((Pa.quartermasterref18_May.f k l0).bind fun t181 => (if t181 = true then ((Pa.quartermasterref18_At.f k l0 a1).bind fun t182 => (if t182 < 0 then (some (([] : List (S25)), ([] : List (S33)), 3)) else (quartermasterref18_Close.l0 k l0 t182 ([] : List (S33)) 0))) else (some (([] : List (S25)), ([] : List (S33)), 1)))) = some (r1, r2, r3) := h
 clear h
 replace H := Option.bind_eq_some_iff.mp H
 obtain ⟨t181, A30, H⟩ := H
 replace H : (if t181 = true then ((Pa.quartermasterref18_At.f k l0 a1).bind fun t182 => (if t182 < 0 then (some (([] : List (S25)), ([] : List (S33)), 3)) else (quartermasterref18_Close.l0 k l0 t182 ([] : List (S33)) 0))) else (some (([] : List (S25)), ([] : List (S33)), 1))) = some (r1, r2, r3) := H
 have A3 := Aside0.mk A30
 clear A30
 by_cases c4 : t181 = true
 rotate_left
 ·replace c4 := Bool.eq_false_iff.mpr c4
  subst c4
  have H1 : (some (([] : List (S25)), ([] : List (S33)), 1)) = some (r1, r2, r3) := by rw [if_neg (show ¬ (false = true) by decide)] at H; exact H
  clear H
  have H := H1
  clear H1
  simp only [Option.some.injEq, Prod.mk.injEq] at H
  obtain ⟨rfl, rfl, rfl⟩ := H
  go_enter Try.func18, Try.ntmps18
  go_wp2_with (first | ((with_reducible refine gate_callee (f := 22) rfl ?_); refine goesL_ (some 12) rfl rfl Try.func22 (by kernel_rfl) rfl #[.slice A0 l0.length c0] rfl (by (try simp only [List.map_toArray, List.map_cons, List.map_nil]); first | done | rfl | (simp only [List.length_drop, List.length_take]; rfl)) ?_; (with_reducible refine (Pa.quartermasterref18_May.calls k _ _ l0 false _ ?side1 ?side2 A3.out).mono ?_); (case side1 => repeat (first | exact (Kd.V_reads' HO0.out).2.2 | (with_reducible refine Kd.C_alloc ?_ _) | (with_reducible refine Kd.C_drewN ?_ _) | (with_reducible refine Kd.C_drew ?_))); (case side2 => exact (Kd.V_reads' HO0.out).2.1); rintro e w18 ⟨rfl, hb⟩; refine ⟨_, rfl, ?_⟩; have n0_ := Aside0.mk (Kd.V_below (by (with_reducible repeat (first | apply Kd.V_alloc | apply Kd.V_drewN | apply Kd.V_drew)); exact HO0.out) hb); have n1_ := Aside0.mk (below_step (by repeat (first | (with_reducible first | exact HB.out | apply below_alloc | apply pw_below_drewN | apply below_drew1) | exact HB.out)) hb); clear HO0; clear HB; have HO0 := n0_; have HB := n1_; clear n0_ n1_; (try clear hb); (try clear hb2); (try clear hk); (try clear hi)))
  go_ret3
  exact ⟨_, _, by first | rfl | (simp [errW_none, errW_some] <;> rfl) | (simp [*, errW_none, errW_some] <;> rfl), by first | exact Kd.S_nil _ _ _ _ _ | exact Kd.N_nil _ _ _ _ _ | exact Kd.V_nil _ _ _ _ _ | exact Kd.Q_nil _ _ _ _ _ | exact Kd.R_nil _ _ _ _ _, by first | exact Kd.R_nil _ _ _ _ _ | exact Kd.N_nil _ _ _ _ _ | exact Kd.V_nil _ _ _ _ _ | exact Kd.Q_nil _ _ _ _ _ | exact Kd.S_nil _ _ _ _ _, by repeat (first | (with_reducible first | exact HB.out | apply below_alloc | apply pw_below_drewN | apply below_drew1) | exact HB.out)⟩
   
 subst c4
 have H1 : ((Pa.quartermasterref18_At.f k l0 a1).bind fun t182 => (if t182 < 0 then (some (([] : List (S25)), ([] : List (S33)), 3)) else (quartermasterref18_Close.l0 k l0 t182 ([] : List (S33)) 0))) = some (r1, r2, r3) := by rw [if_pos rfl] at H; exact H
 clear H
 have H := H1
 clear H1
 replace H := Option.bind_eq_some_iff.mp H
 obtain ⟨t182, A50, H⟩ := H
 replace H : (if t182 < 0 then (some (([] : List (S25)), ([] : List (S33)), 3)) else (quartermasterref18_Close.l0 k l0 t182 ([] : List (S33)) 0)) = some (r1, r2, r3) := H
 have A5 := Aside0.mk A50
 clear A50
 by_cases c6 : t182 < 0
 ·rw [if_pos c6] at H
  have c6b0 : decide (t182 < 0) = true := decide_eq_true c6
  clear c6
  simp only [Option.some.injEq, Prod.mk.injEq] at H
  obtain ⟨rfl, rfl, rfl⟩ := H
  go_enter Try.func18, Try.ntmps18
  go_wp2_with (first | ((with_reducible refine gate_callee (f := 22) rfl ?_); refine goesL_ (some 12) rfl rfl Try.func22 (by kernel_rfl) rfl #[.slice A0 l0.length c0] rfl (by (try simp only [List.map_toArray, List.map_cons, List.map_nil]); first | done | rfl | (simp only [List.length_drop, List.length_take]; rfl)) ?_; (with_reducible refine (Pa.quartermasterref18_May.calls k _ _ l0 true _ ?side1 ?side2 A3.out).mono ?_); (case side1 => repeat (first | exact (Kd.V_reads' HO0.out).2.2 | (with_reducible refine Kd.C_alloc ?_ _) | (with_reducible refine Kd.C_drewN ?_ _) | (with_reducible refine Kd.C_drew ?_))); (case side2 => exact (Kd.V_reads' HO0.out).2.1); rintro e w7 ⟨rfl, hb⟩; refine ⟨_, rfl, ?_⟩; have n0_ := Aside0.mk (Kd.V_below (by (with_reducible repeat (first | apply Kd.V_alloc | apply Kd.V_drewN | apply Kd.V_drew)); exact HO0.out) hb); have n1_ := Aside0.mk (below_step (by repeat (first | (with_reducible first | exact HB.out | apply below_alloc | apply pw_below_drewN | apply below_drew1) | exact HB.out)) hb); clear HO0; clear HB; have HO0 := n0_; have HB := n1_; clear n0_ n1_; (try clear hb); (try clear hb2); (try clear hk); (try clear hi)) | ((with_reducible refine gate_callee (f := 24) rfl ?_); refine goesL_ (some 17) rfl rfl Try.func24 (by kernel_rfl) rfl #[.slice A0 l0.length c0, .int .i64 a1] rfl (by (try simp only [List.map_toArray, List.map_cons, List.map_nil]); first | done | rfl | (simp only [List.length_drop, List.length_take]; rfl)) ?_; (with_reducible refine (Pa.quartermasterref18_At.calls k _ _ l0 a1 t182 _ ?side1 ?side2 A5.out).mono ?_); (case side1 => repeat (first | exact (Kd.V_reads' HO0.out).2.2 | (with_reducible refine Kd.C_alloc ?_ _) | (with_reducible refine Kd.C_drewN ?_ _) | (with_reducible refine Kd.C_drew ?_))); (case side2 => exact (Kd.V_reads' HO0.out).2.1); rintro e w' ⟨rfl, ⟨nd, rfl⟩⟩; refine ⟨_, rfl, ?_⟩))
  go_ret3
  exact ⟨_, _, by first | rfl | (simp [errW_none, errW_some] <;> rfl) | (simp [*, errW_none, errW_some] <;> rfl), by first | exact Kd.S_nil _ _ _ _ _ | exact Kd.N_nil _ _ _ _ _ | exact Kd.V_nil _ _ _ _ _ | exact Kd.Q_nil _ _ _ _ _ | exact Kd.R_nil _ _ _ _ _, by first | exact Kd.R_nil _ _ _ _ _ | exact Kd.N_nil _ _ _ _ _ | exact Kd.V_nil _ _ _ _ _ | exact Kd.Q_nil _ _ _ _ _ | exact Kd.S_nil _ _ _ _ _, by repeat (first | (with_reducible first | exact HB.out | apply below_alloc | apply pw_below_drewN | apply below_drew1) | exact HB.out)⟩
 rw [if_neg c6] at H
 have c6b0 : decide (t182 < 0) = false := decide_eq_false c6
 clear c6
 have H' := Aside0.mk H
 clear H
 go_enter Try.func18, Try.ntmps18
 go_wp2_with (first | ((with_reducible refine gate_callee (f := 22) rfl ?_); refine goesL_ (some 12) rfl rfl Try.func22 (by kernel_rfl) rfl #[.slice A0 l0.length c0] rfl (by (try simp only [List.map_toArray, List.map_cons, List.map_nil]); first | done | rfl | (simp only [List.length_drop, List.length_take]; rfl)) ?_; (with_reducible refine (Pa.quartermasterref18_May.calls k _ _ l0 true _ ?side1 ?side2 A3.out).mono ?_); (case side1 => repeat (first | exact (Kd.V_reads' HO0.out).2.2 | (with_reducible refine Kd.C_alloc ?_ _) | (with_reducible refine Kd.C_drewN ?_ _) | (with_reducible refine Kd.C_drew ?_))); (case side2 => exact (Kd.V_reads' HO0.out).2.1); rintro e w8 ⟨rfl, hb⟩; refine ⟨_, rfl, ?_⟩; have n0_ := Aside0.mk (Kd.V_below (by (with_reducible repeat (first | apply Kd.V_alloc | apply Kd.V_drewN | apply Kd.V_drew)); exact HO0.out) hb); have n1_ := Aside0.mk (below_step (by repeat (first | (with_reducible first | exact HB.out | apply below_alloc | apply pw_below_drewN | apply below_drew1) | exact HB.out)) hb); clear HO0; clear HB; have HO0 := n0_; have HB := n1_; clear n0_ n1_; (try clear hb); (try clear hb2); (try clear hk); (try clear hi)) | ((with_reducible refine gate_callee (f := 24) rfl ?_); refine goesL_ (some 17) rfl rfl Try.func24 (by kernel_rfl) rfl #[.slice A0 l0.length c0, .int .i64 a1] rfl (by (try simp only [List.map_toArray, List.map_cons, List.map_nil]); first | done | rfl | (simp only [List.length_drop, List.length_take]; rfl)) ?_; (with_reducible refine (Pa.quartermasterref18_At.calls k _ _ l0 a1 t182 _ ?side1 ?side2 A5.out).mono ?_); (case side1 => repeat (first | exact (Kd.V_reads' HO0.out).2.2 | (with_reducible refine Kd.C_alloc ?_ _) | (with_reducible refine Kd.C_drewN ?_ _) | (with_reducible refine Kd.C_drew ?_))); (case side2 => exact (Kd.V_reads' HO0.out).2.1); rintro e w' ⟨rfl, ⟨nd, rfl⟩⟩; refine ⟨_, rfl, ?_⟩))
 go_loopg [9, 10] k (fun kq v9 v10 w' => ∃ (x9_1 : List (S33)) (x10_1 : Int), v10 = .int .i64 x10_1 ∧ Aside0 (quartermasterref18_Close.l0 kq l0 t182 x9_1 x10_1 = some (r1, r2, r3)) ∧ Aside0 (kq ≤ k) ∧ Aside0 (Kd.V k25 25 w' w.heap.size (fun k_ => (P0_ k_ ∨ w.heap.size ≤ k_) ∧ some k_ ≠ (v9 : Value).ownBlock) (.slice A0 l0.length c0) l0) ∧ Aside0 (Kd.R k33 33 w' w.heap.size (fun k_ => (w.heap.size ≤ k_)) v9 x9_1) ∧ Aside0 (Below w.heap.size w w'))
 case atStart => exact ⟨(([] : List (S33))), (0), (by first | rfl | (simp; done) | (simp [*]; done)), H', ⟨Nat.le_refl _⟩, ⟨by (with_reducible repeat (first | apply Kd.V_alloc | apply Kd.V_drewN | apply Kd.V_drew)); exact Kd.V_mono HO0.out (fun _ hk => ⟨hk, (by simp [Value.ownBlock])⟩)⟩, ⟨by first | exact Kd.R_nil _ _ _ _ _ | exact Kd.N_nil _ _ _ _ _ | exact Kd.V_nil _ _ _ _ _ | exact Kd.Q_nil _ _ _ _ _ | exact Kd.S_nil _ _ _ _ _⟩, ⟨by repeat (first | (with_reducible first | exact HB.out | apply below_alloc | apply pw_below_drewN | apply below_drew1) | exact HB.out)⟩⟩
 case round =>
  clear H'
  try clear c1
  try clear c2
  try clear p2
  try clear c4
  try clear c6
  try clear c6b0
  obtain ⟨x9_1, x10_1, rfl, HA, HK1, HO_0, HO_9, HB⟩ := hrel
  cases gk with
  | zero => exact absurd HA.out (by simp [quartermasterref18_Close.l0])
  | succ k1 =>
   have H := HA.out
   clear HA
   simp only [quartermasterref18_Close.l0] at H
   by_cases c9 : 0 ≤ t182
   rotate_left
   ·rw [if_neg c9] at H
    exact absurd H (by simp)
   rw [if_pos c9] at H
   have c9b0 : decide (0 ≤ t182) = true := decide_eq_true c9
   clear c9
   by_cases c10 : t182 < (l0.length : Int)
   rotate_left
   ·rw [if_neg c10] at H
    exact absurd H (by simp)
   rw [if_pos c10] at H
   have c10b0 : decide (t182 < (l0.length : Int)) = true := decide_eq_true c10
   clear c10
   by_cases c11 : x10_1 < (((rd_T25 l0 t182).f2).length : Int)
   rotate_left
   ·rw [if_neg c11] at H
    have c11b0 : decide (x10_1 < (((rd_T25 l0 t182).f2).length : Int)) = false := decide_eq_false c11
    clear c11
    replace H := Option.bind_eq_some_iff.mp H
    obtain ⟨t191, A160, H⟩ := H
    replace H : (some (t191, x9_1, 0)) = some (r1, r2, r3) := H
    have A16 := Aside0.mk A160
    clear A160
    simp only [Option.some.injEq, Prod.mk.injEq] at H
    obtain ⟨rfl, rfl, rfl⟩ := H
    have p183 : 0 ≤ (t182 : Int) := of_decide_eq_true (by first | (with_reducible assumption) | assumption)
    have q183 : t182 < (l0.length : Int) := of_decide_eq_true (by first | (with_reducible assumption) | assumption)
    obtain ⟨ad183, A183_2, c183_2, e183, hx183_0, hx183_1, hx183_2, hl183_2, hi183_2⟩ := at_T25 (Kd.V_reads' HO_0.out).2.2 t182 p183 q183
    cases e183
    obtain ⟨ce183, hce183, hMe183, hcc183⟩ := Kd.V_get HO_0.out z25 t182 p183 (by first | exact q183 | exact of_decide_eq_true (by first | (with_reducible assumption) | assumption) | (have e_ := (Kd.V_reads' HO_0.out).1; omega))
    obtain ⟨ua183_2, uc183_2, rfl, ul183_2, ge183_2⟩ := k25_openF hMe183
    have hv183_2 := hcc183 2 _ rfl
    rw [add_field _ _ 2 (by omega)] at hv183_2
    replace hv183_2 := Option.some.inj (hv183_2.symm.trans hx183_2)
    injection hv183_2 with hva_ hvn_ hvc_
    rw [hva_] at ge183_2
    rw [hvc_] at ul183_2
    have HL183_2 := Aside0.mk (show Kd.V k33 33 _ w.heap.size _ _ ((rd_T25 l0 t182).f2) from Kd.V_mk ul183_2 ge183_2)
    clear hva_ hvn_ hvc_ ge183_2 ul183_2
    clear hcc183 hce183
    have HR183_2 := Aside0.mk hi183_2
    have HC183_2 := Aside0.mk hl183_2
    clear hi183_2 hl183_2
    replace p183 := eq_true p183
    replace q183 := eq_true q183
    go_wp2_with (first | ((with_reducible refine gate_callee (f := 36) rfl ?_); refine goesL_ (some 53) rfl rfl Try.func36 (by kernel_rfl) rfl #[.slice (some ad183) l0.length c0, .int .i64 t182] rfl (by (try simp only [List.map_toArray, List.map_cons, List.map_nil]); first | done | rfl | (simp only [List.length_drop, List.length_take]; rfl)) ?_; (with_reducible refine (quartermasterref18_without.calls (fun k_ => ((P0_ k_ ∨ w.heap.size ≤ k_) ∧ some k_ ≠ (u9 : Value).ownBlock)) _ _ l0 t182 t191 _ ?side1 A16.out).mono ?_); (case side1 => exact HO_0.out); rintro e w17 ⟨v192, rfl, ho0, hb⟩; refine ⟨_, rfl, ?_⟩; have n0_ := Aside0.mk (Kd.V_elder' (by (with_reducible repeat (first | apply Kd.V_alloc | apply Kd.V_drewN | apply Kd.V_drew)); exact HO_0.out) (Kd.N_base ho0) hb); have n1_ := Aside0.mk (Kd.R_below (by (with_reducible repeat (first | apply Kd.R_alloc | apply Kd.R_drewN | apply Kd.R_drew)); exact HO_9.out) hb); have n2_ := Aside0.mk (Kd.V_elder' (by (with_reducible repeat (first | apply Kd.V_alloc | apply Kd.V_drewN | apply Kd.V_drew)); exact HL183_2.out) (Kd.N_base ho0) hb); have n3_ := Aside0.mk (Kd.N_lower (Kd.N_mono (ok' := fun k_ => (P0_ k_ ∨ w.heap.size ≤ k_) ∧ some k_ ≠ (u9 : Value).ownBlock) ho0 (fun k_ hk_ => ⟨Or.elim hk_ (fun hs_ => hs_.1) (fun hn_ => (.inr (Nat.le_trans (below_size (by repeat (first | (with_reducible first | exact HB.out | apply below_alloc | apply pw_below_drewN | apply below_drew1) | exact HB.out))) hn_))), Or.elim hk_ (fun hs_ => hs_.2) (fun hn_ => (Kd.fresh' (Kd.R_lt (by (with_reducible repeat (first | apply Kd.R_alloc | apply Kd.R_drewN | apply Kd.R_drew)); exact HO_9.out)) k_ hn_))⟩)) (below_size (by repeat (first | (with_reducible first | exact HB.out | apply below_alloc | apply pw_below_drewN | apply below_drew1) | exact HB.out)))); have n4_ := Aside0.mk (Kd.C_below (by repeat (first | (with_reducible exact HR183_2.out) | (with_reducible refine Kd.C_alloc ?_ _) | (with_reducible refine Kd.C_drewN ?_ _) | (with_reducible refine Kd.C_drew ?_) | exact HR183_2.out)) hb); have n5_ := Aside0.mk (below_step (by repeat (first | (with_reducible first | exact HB.out | apply below_alloc | apply pw_below_drewN | apply below_drew1) | exact HB.out)) hb); clear HO_0; clear HO_9; clear HL183_2; clear HR183_2; clear HB; have HO_0 := n0_; have HO_9 := n1_; have HL183_2 := n2_; have HO193 := n3_; have HR183_2 := n4_; have HB := n5_; clear n0_ n1_ n2_ n3_ n4_ n5_; (try clear hb); (try clear hb2); (try clear hk); (try clear hi); (try clear ho0)))
    go_ret3
    exact ⟨_, _, by first | rfl | (simp [errW_none, errW_some] <;> rfl) | (simp [*, errW_none, errW_some] <;> rfl), by (with_reducible repeat (first | apply Kd.N_alloc | apply Kd.N_drewN | apply Kd.N_drew)); exact HO193.out, by (with_reducible repeat (first | apply Kd.R_alloc | apply Kd.R_drewN | apply Kd.R_drew)); exact HO_9.out, by repeat (first | (with_reducible first | exact HB.out | apply below_alloc | apply pw_below_drewN | apply below_drew1) | exact HB.out)⟩
   rw [if_pos c11] at H
   have c11b0 : decide (x10_1 < (((rd_T25 l0 t182).f2).length : Int)) = true := decide_eq_true c11
   clear c11
   by_cases c12 : 0 ≤ x10_1
   rotate_left
   ·rw [if_neg c12] at H
    exact absurd H (by simp)
   rw [if_pos c12] at H
   have c12b0 : decide (0 ≤ x10_1) = true := decide_eq_true c12
   clear c12
   by_cases c13 : ((rd_T33 ((rd_T25 l0 t182).f2) x10_1).f2) > 0
   rotate_left
   ·rw [if_neg c13] at H
    have c13b0 : decide (0 < ((rd_T33 ((rd_T25 l0 t182).f2) x10_1).f2)) = false := decide_eq_false c13
    clear c13
    have H' := Aside0.mk H
    clear H
    have p183 : 0 ≤ (t182 : Int) := of_decide_eq_true (by first | (with_reducible assumption) | assumption)
    have q183 : t182 < (l0.length : Int) := of_decide_eq_true (by first | (with_reducible assumption) | assumption)
    obtain ⟨ad183, A183_2, c183_2, e183, hx183_0, hx183_1, hx183_2, hl183_2, hi183_2⟩ := at_T25 (Kd.V_reads' HO_0.out).2.2 t182 p183 q183
    cases e183
    obtain ⟨ce183, hce183, hMe183, hcc183⟩ := Kd.V_get HO_0.out z25 t182 p183 (by first | exact q183 | exact of_decide_eq_true (by first | (with_reducible assumption) | assumption) | (have e_ := (Kd.V_reads' HO_0.out).1; omega))
    obtain ⟨ua183_2, uc183_2, rfl, ul183_2, ge183_2⟩ := k25_openF hMe183
    have hv183_2 := hcc183 2 _ rfl
    rw [add_field _ _ 2 (by omega)] at hv183_2
    replace hv183_2 := Option.some.inj (hv183_2.symm.trans hx183_2)
    injection hv183_2 with hva_ hvn_ hvc_
    rw [hva_] at ge183_2
    rw [hvc_] at ul183_2
    have HL183_2 := Aside0.mk (show Kd.V k33 33 _ w.heap.size _ _ ((rd_T25 l0 t182).f2) from Kd.V_mk ul183_2 ge183_2)
    clear hva_ hvn_ hvc_ ge183_2 ul183_2
    clear hcc183 hce183
    have HR183_2 := Aside0.mk hi183_2
    have HC183_2 := Aside0.mk hl183_2
    clear hi183_2 hl183_2
    replace p183 := eq_true p183
    replace q183 := eq_true q183
    have p184 : 0 ≤ (t182 : Int) := of_decide_eq_true (by first | (with_reducible assumption) | assumption)
    have q184 : t182 < (l0.length : Int) := of_decide_eq_true (by first | (with_reducible assumption) | assumption)
    obtain ⟨ad184, A184_2, c184_2, e184, hx184_0, hx184_1, hx184_2, hl184_2, hi184_2⟩ := at_T25 (Kd.V_reads' HO_0.out).2.2 t182 p184 q184
    obtain rfl : ad183 = ad184 := (by injection e184)
    obtain ⟨ce184, hce184, hMe184, hcc184⟩ := Kd.V_get HO_0.out z25 t182 p184 (by first | exact q184 | exact of_decide_eq_true (by first | (with_reducible assumption) | assumption) | (have e_ := (Kd.V_reads' HO_0.out).1; omega))
    obtain ⟨ua184_2, uc184_2, rfl, ul184_2, ge184_2⟩ := k25_openF hMe184
    have hv184_2 := hcc184 2 _ rfl
    rw [add_field _ _ 2 (by omega)] at hv184_2
    replace hv184_2 := Option.some.inj (hv184_2.symm.trans hx184_2)
    injection hv184_2 with hva_ hvn_ hvc_
    rw [hva_] at ge184_2
    rw [hvc_] at ul184_2
    have HL184_2 := Aside0.mk (show Kd.V k33 33 _ w.heap.size _ _ ((rd_T25 l0 t182).f2) from Kd.V_mk ul184_2 ge184_2)
    clear hva_ hvn_ hvc_ ge184_2 ul184_2
    clear hcc184 hce184
    have HR184_2 := Aside0.mk hi184_2
    have HC184_2 := Aside0.mk hl184_2
    clear hi184_2 hl184_2
    replace p184 := eq_true p184
    replace q184 := eq_true q184
    have ea_ := Option.some.inj (hx183_2.symm.trans hx184_2)
    injection ea_ with ea_ en_ ec_
    subst ea_
    subst ec_
    clear en_
    have p185 : 0 ≤ (x10_1 : Int) := of_decide_eq_true (by first | (with_reducible assumption) | assumption)
    have q185 : x10_1 < (((rd_T25 l0 t182).f2).length : Int) := of_decide_eq_true (by first | (with_reducible assumption) | assumption)
    obtain ⟨ad185, e185, hx185_0, hx185_1, hx185_2⟩ := at_T33 (by repeat (first | (with_reducible exact HR184_2.out) | (with_reducible refine Kd.C_alloc ?_ _) | (with_reducible refine Kd.C_drewN ?_ _) | (with_reducible refine Kd.C_drew ?_) | exact HR184_2.out)) x10_1 p185 q185
    cases e185
    replace p185 := eq_true p185
    replace q185 := eq_true q185
    go_wp2
    go_roundg k1
    case measure => have := HK1.out; omega
    case rel => exact ⟨(x9_1), (wrap64 (x10_1 + 1)), (by first | rfl | (simp; done) | (simp [*]; done)), H', ⟨by have := HK1.out; omega⟩, ⟨by (with_reducible repeat (first | apply Kd.V_alloc | apply Kd.V_drewN | apply Kd.V_drew)); exact HO_0.out⟩, ⟨by (with_reducible repeat (first | apply Kd.R_alloc | apply Kd.R_drewN | apply Kd.R_drew)); exact HO_9.out⟩, ⟨by repeat (first | (with_reducible first | exact HB.out | apply below_alloc | apply pw_below_drewN | apply below_drew1) | exact HB.out)⟩⟩
   rw [if_pos c13] at H
   have c13b0 : decide (0 < ((rd_T33 ((rd_T25 l0 t182).f2) x10_1).f2)) = true := decide_eq_true c13
   clear c13
   by_cases c14 : x9_1.length < 5864062014805
   rotate_left
   ·rw [if_neg c14] at H
    exact absurd H (by simp)
   rw [if_pos c14] at H
   have LMc14 := Aside0.mk c14
   clear c14
   obtain ⟨y188, hy188⟩ : ∃ y_ : List (S33), y_ = (x9_1 ++ [(⟨(rd_T33 ((rd_T25 l0 t182).f2) x10_1).f0, (rd_T33 ((rd_T25 l0 t182).f2) x10_1).f1, (rd_T33 ((rd_T25 l0 t182).f2) x10_1).f2⟩ : S33)]) := ⟨_, rfl⟩
   replace H : (quartermasterref18_Close.l0 k1 l0 t182 y188 (wrap64 (x10_1 + 1))) = some (r1, r2, r3) := by first | (rw [hy188]; with_reducible exact H) | (have H2_ := (Option.bind_some _ _).symm.trans H; rw [hy188]; with_reducible exact H2_) | (have H2_ := (Option.bind_some _ _).symm.trans H; with_reducible exact H2_) | with_reducible exact H | (rw [hy188]; exact H) | exact H
   have Ny188 := Aside0.mk hy188
   clear hy188
   have H' := Aside0.mk H
   clear H
   have p183 : 0 ≤ (t182 : Int) := of_decide_eq_true (by first | (with_reducible assumption) | assumption)
   have q183 : t182 < (l0.length : Int) := of_decide_eq_true (by first | (with_reducible assumption) | assumption)
   obtain ⟨ad183, A183_2, c183_2, e183, hx183_0, hx183_1, hx183_2, hl183_2, hi183_2⟩ := at_T25 (Kd.V_reads' HO_0.out).2.2 t182 p183 q183
   cases e183
   obtain ⟨ce183, hce183, hMe183, hcc183⟩ := Kd.V_get HO_0.out z25 t182 p183 (by first | exact q183 | exact of_decide_eq_true (by first | (with_reducible assumption) | assumption) | (have e_ := (Kd.V_reads' HO_0.out).1; omega))
   obtain ⟨ua183_2, uc183_2, rfl, ul183_2, ge183_2⟩ := k25_openF hMe183
   have hv183_2 := hcc183 2 _ rfl
   rw [add_field _ _ 2 (by omega)] at hv183_2
   replace hv183_2 := Option.some.inj (hv183_2.symm.trans hx183_2)
   injection hv183_2 with hva_ hvn_ hvc_
   rw [hva_] at ge183_2
   rw [hvc_] at ul183_2
   have HL183_2 := Aside0.mk (show Kd.V k33 33 _ w.heap.size _ _ ((rd_T25 l0 t182).f2) from Kd.V_mk ul183_2 ge183_2)
   clear hva_ hvn_ hvc_ ge183_2 ul183_2
   clear hcc183 hce183
   have HR183_2 := Aside0.mk hi183_2
   have HC183_2 := Aside0.mk hl183_2
   clear hi183_2 hl183_2
   replace p183 := eq_true p183
   replace q183 := eq_true q183
   have p184 : 0 ≤ (t182 : Int) := of_decide_eq_true (by first | (with_reducible assumption) | assumption)
   have q184 : t182 < (l0.length : Int) := of_decide_eq_true (by first | (with_reducible assumption) | assumption)
   obtain ⟨ad184, A184_2, c184_2, e184, hx184_0, hx184_1, hx184_2, hl184_2, hi184_2⟩ := at_T25 (Kd.V_reads' HO_0.out).2.2 t182 p184 q184
   obtain rfl : ad183 = ad184 := (by injection e184)
   obtain ⟨ce184, hce184, hMe184, hcc184⟩ := Kd.V_get HO_0.out z25 t182 p184 (by first | exact q184 | exact of_decide_eq_true (by first | (with_reducible assumption) | assumption) | (have e_ := (Kd.V_reads' HO_0.out).1; omega))
   obtain ⟨ua184_2, uc184_2, rfl, ul184_2, ge184_2⟩ := k25_openF hMe184
   have hv184_2 := hcc184 2 _ rfl
   rw [add_field _ _ 2 (by omega)] at hv184_2
   replace hv184_2 := Option.some.inj (hv184_2.symm.trans hx184_2)
   injection hv184_2 with hva_ hvn_ hvc_
   rw [hva_] at ge184_2
   rw [hvc_] at ul184_2
   have HL184_2 := Aside0.mk (show Kd.V k33 33 _ w.heap.size _ _ ((rd_T25 l0 t182).f2) from Kd.V_mk ul184_2 ge184_2)
   clear hva_ hvn_ hvc_ ge184_2 ul184_2
   clear hcc184 hce184
   have HR184_2 := Aside0.mk hi184_2
   have HC184_2 := Aside0.mk hl184_2
   clear hi184_2 hl184_2
   replace p184 := eq_true p184
   replace q184 := eq_true q184
   have ea_ := Option.some.inj (hx183_2.symm.trans hx184_2)
   injection ea_ with ea_ en_ ec_
   subst ea_
   subst ec_
   clear en_
   have p185 : 0 ≤ (x10_1 : Int) := of_decide_eq_true (by first | (with_reducible assumption) | assumption)
   have q185 : x10_1 < (((rd_T25 l0 t182).f2).length : Int) := of_decide_eq_true (by first | (with_reducible assumption) | assumption)
   obtain ⟨ad185, e185, hx185_0, hx185_1, hx185_2⟩ := at_T33 (by repeat (first | (with_reducible exact HR184_2.out) | (with_reducible refine Kd.C_alloc ?_ _) | (with_reducible refine Kd.C_drewN ?_ _) | (with_reducible refine Kd.C_drew ?_) | exact HR184_2.out)) x10_1 p185 q185
   cases e185
   replace p185 := eq_true p185
   replace q185 := eq_true q185
   have p186 : 0 ≤ (t182 : Int) := of_decide_eq_true (by first | (with_reducible assumption) | assumption)
   have q186 : t182 < (l0.length : Int) := of_decide_eq_true (by first | (with_reducible assumption) | assumption)
   obtain ⟨ad186, A186_2, c186_2, e186, hx186_0, hx186_1, hx186_2, hl186_2, hi186_2⟩ := at_T25 (Kd.V_reads' HO_0.out).2.2 t182 p186 q186
   obtain rfl : ad183 = ad186 := (by injection e186)
   obtain ⟨ce186, hce186, hMe186, hcc186⟩ := Kd.V_get HO_0.out z25 t182 p186 (by first | exact q186 | exact of_decide_eq_true (by first | (with_reducible assumption) | assumption) | (have e_ := (Kd.V_reads' HO_0.out).1; omega))
   obtain ⟨ua186_2, uc186_2, rfl, ul186_2, ge186_2⟩ := k25_openF hMe186
   have hv186_2 := hcc186 2 _ rfl
   rw [add_field _ _ 2 (by omega)] at hv186_2
   replace hv186_2 := Option.some.inj (hv186_2.symm.trans hx186_2)
   injection hv186_2 with hva_ hvn_ hvc_
   rw [hva_] at ge186_2
   rw [hvc_] at ul186_2
   have HL186_2 := Aside0.mk (show Kd.V k33 33 _ w.heap.size _ _ ((rd_T25 l0 t182).f2) from Kd.V_mk ul186_2 ge186_2)
   clear hva_ hvn_ hvc_ ge186_2 ul186_2
   clear hcc186 hce186
   have HR186_2 := Aside0.mk hi186_2
   have HC186_2 := Aside0.mk hl186_2
   clear hi186_2 hl186_2
   replace p186 := eq_true p186
   replace q186 := eq_true q186
   have ea_ := Option.some.inj (hx183_2.symm.trans hx186_2)
   injection ea_ with ea_ en_ ec_
   subst ea_
   subst ec_
   clear en_
   have p187 : 0 ≤ (x10_1 : Int) := of_decide_eq_true (by first | (with_reducible assumption) | assumption)
   have q187 : x10_1 < (((rd_T25 l0 t182).f2).length : Int) := of_decide_eq_true (by first | (with_reducible assumption) | assumption)
   obtain ⟨ad187, e187, hx187_0, hx187_1, hx187_2⟩ := at_T33 (by repeat (first | (with_reducible exact HR186_2.out) | (with_reducible refine Kd.C_alloc ?_ _) | (with_reducible refine Kd.C_drewN ?_ _) | (with_reducible refine Kd.C_drew ?_) | exact HR186_2.out)) x10_1 p187 q187
   cases e187
   replace p187 := eq_true p187
   replace q187 := eq_true q187
   go_wp2_with (first | ((with_reducible refine gate_builtin (b := .append) (xs := #[.tmp 40, .tmp 49]) rfl ?_); at_builtin; refine Kd.R_append k33 (w0 := w) w.heap.size rfl (.tmp 40) (.tmp 49) 23 33 (.agg #[(.int .i64 0), (.int .i64 0), (.int .i64 0)]) 24 rfl Try.underlying23 info33 rfl (by decide) (by omega) u9 x9_1 (⟨(rd_T33 ((rd_T25 l0 t182).f2) x10_1).f0, (rd_T33 ((rd_T25 l0 t182).f2) x10_1).f1, (rd_T33 ((rd_T25 l0 t182).f2) x10_1).f2⟩ : S33) [.int .i64 ((rd_T33 ((rd_T25 l0 t182).f2) x10_1).f0), .int .i64 ((rd_T33 ((rd_T25 l0 t182).f2) x10_1).f1), .int .i64 ((rd_T33 ((rd_T25 l0 t182).f2) x10_1).f2)] (fun k_ => (w.heap.size ≤ k_)) (fun _ => False) rfl rfl ?aP (fun _ hk => hk.elim) ?aF ?aO ?aB ?aS ?aL ?_; (case aP => exact k33_mkM _ _ _ (⟨(rd_T33 ((rd_T25 l0 t182).f2) x10_1).f0, (rd_T33 ((rd_T25 l0 t182).f2) x10_1).f1, (rd_T33 ((rd_T25 l0 t182).f2) x10_1).f2⟩ : S33)); (case aB => exact (by repeat (first | (with_reducible first | exact HB.out | apply below_alloc | apply pw_below_drewN | apply below_drew1) | exact HB.out))); (case aF => exact (fun k_ hk => (Nat.le_trans (below_size (by repeat (first | (with_reducible first | exact HB.out | apply below_alloc | apply pw_below_drewN | apply below_drew1) | exact HB.out))) hk))); (case aO => exact (by (with_reducible repeat (first | apply Kd.R_alloc | apply Kd.R_drewN | apply Kd.R_drew)); exact HO_9.out)); (case aS => exact (below_size (by repeat (first | (with_reducible first | exact HB.out | apply below_alloc | apply pw_below_drewN | apply below_drew1) | exact HB.out)))); (case aL => have := LMc14.out; omega); intro v189 w15 ho hb hg hat; rw [← Ny188.out] at ho; have n0_ := Aside0.mk (Kd.V_afterv (ok := (fun k_ => (P0_ k_ ∨ w.heap.size ≤ k_))) (by (with_reducible repeat (first | apply Kd.V_alloc | apply Kd.V_drewN | apply Kd.V_drew)); exact HO_0.out) hg hat); have n1_ := Aside0.mk (Kd.V_afterv (ok := (fun k_ => (P0_ k_ ∨ w.heap.size ≤ k_))) (by (with_reducible repeat (first | apply Kd.V_alloc | apply Kd.V_drewN | apply Kd.V_drew)); exact HL183_2.out) hg hat); have n2_ := Aside0.mk (Kd.V_afterv (ok := (fun k_ => (P0_ k_ ∨ w.heap.size ≤ k_))) (by (with_reducible repeat (first | apply Kd.V_alloc | apply Kd.V_drewN | apply Kd.V_drew)); exact HL184_2.out) hg hat); have n3_ := Aside0.mk (Kd.V_afterv (ok := (fun k_ => (P0_ k_ ∨ w.heap.size ≤ k_))) (by (with_reducible repeat (first | apply Kd.V_alloc | apply Kd.V_drewN | apply Kd.V_drew)); exact HL186_2.out) hg hat); have n4_ := Aside0.mk (hb); have n5_ := Aside0.mk (ho); clear HO_0; clear HL183_2; clear HL184_2; clear HL186_2; clear HB; clear HO_9; have HO_0 := n0_; have HL183_2 := n1_; have HL184_2 := n2_; have HL186_2 := n3_; have HB := n4_; have HO190 := n5_; clear n0_ n1_ n2_ n3_ n4_ n5_; clear ho hb hg hat))
   go_roundg k1
   case measure => have := HK1.out; omega
   case rel => exact ⟨(y188), (wrap64 (x10_1 + 1)), (by first | rfl | (simp; done) | (simp [*]; done)), H', ⟨by have := HK1.out; omega⟩, ⟨by (with_reducible repeat (first | apply Kd.V_alloc | apply Kd.V_drewN | apply Kd.V_drew)); exact HO_0.out⟩, ⟨by (with_reducible repeat (first | apply Kd.R_alloc | apply Kd.R_drewN | apply Kd.R_drew)); exact HO190.out⟩, ⟨by repeat (first | (with_reducible first | exact HB.out | apply below_alloc | apply pw_below_drewN | apply below_drew1) | exact HB.out)⟩⟩
end Go.Proofs.Ytjhdjkanepdgiaa.Ph
 