/- Plain functions, and the walks that show that the Go functions come to them: written by this session's program wip/myprint.py, which runs the kit's print over the translation. No conditions beside those that each contract states. -/
import Derived.Test.YtjhdjkanepdgiaaPa0
import Derived.Test.YtjhdjkanepdgiaaPa1
import Derived.Test.YtjhdjkanepdgiaaPaq
namespace Go.Proofs.Ytjhdjkanepdgiaa.Pa
open Go.RowKit Go.Proofs.YtjhdjkanepdgiaaW.PrintWords Go.Proofs.YtjhdjkanepdgiaaW.PrintLast Go.Proofs.YtjhdjkanepdgiaaW.PrintMore
attribute [local go_sem] max2_int min2_int max_two min_two max_three min_three max_four min_four   -- for this text's walks alone
set_option linter.unusedVariables false
set_option linter.unusedSimpArgs false
 
attribute [local go_sem high] eqA33
/-! ### quartermasterref18_Few: function 9 -/
def quartermasterref18_Few.l0 : Nat → List (S25) → Int → Option (Bool)
 | 0, _, _ => none
 | k + 1, x0, x5 => if x5 < (x0.length : Int) then (if 0 ≤ x5 then (if (((rd_T25 x0 x5).f2).length : Int) > 20 then (some false) else (quartermasterref18_Few.l0 k x0 (wrap64 (x5 + 1)))) else (none)) else (some true)
def quartermasterref18_Few.f (k : Nat) (l0 : List (S25)) (a1 : Int) : Option (Bool) := if (l0.length : Int) > a1 then (some false) else (quartermasterref18_Few.l0 k l0 0)
theorem quartermasterref18_Few.mono_l : ∀ k, (∀ y0 y1, LeO (quartermasterref18_Few.l0 k y0 y1) (quartermasterref18_Few.l0 (k + 1) y0 y1))
 | 0 => fun _ _ r h => by simp [quartermasterref18_Few.l0] at h
 | k + 1 => by
  have ih0 := quartermasterref18_Few.mono_l k
  intro y0 y1
  unfold quartermasterref18_Few.l0
  repeat' first
  | (with_reducible exact ih0 _ _)
  | (with_reducible exact LeO.refl _)
  | (with_reducible exact LeO.none _)
  | (with_reducible refine LeO.ite ?_ ?_)
  | (with_reducible refine LeO.bind ?_ (fun _ => ?_))
  | exact ih0 _ _
  | exact LeO.none _
  | refine LeO.ite ?_ ?_
  | refine LeO.bind ?_ (fun _ => ?_)
theorem quartermasterref18_Few.mono : ∀ a0 a1 k, LeO (quartermasterref18_Few.f k a0 a1) (quartermasterref18_Few.f (k + 1) a0 a1) := by
 intro a0 a1 k
 have ih0 := quartermasterref18_Few.mono_l k
 unfold quartermasterref18_Few.f
 repeat' first
  | (with_reducible exact ih0 _ _)
  | (with_reducible exact LeO.refl _)
  | (with_reducible exact LeO.none _)
  | (with_reducible refine LeO.ite ?_ ?_)
  | (with_reducible refine LeO.bind ?_ (fun _ => ?_))
  | exact ih0 _ _
  | exact LeO.none _
  | refine LeO.ite ?_ ?_
  | refine LeO.bind ?_ (fun _ => ?_)
set_option maxHeartbeats 8000000 in
set_option maxRecDepth 100000 in
theorem quartermasterref18_Few.calls (k : Nat) (A0 : Option Addr) (c0 : Nat) (l0 : List (S25)) (a1 : Int) (r : Bool) (w : World) (hr0 : Kd.C k25 w A0 l0.length l0) (hc0 : l0.length ≤ c0) (h : quartermasterref18_Few.f k l0 a1 = some r) :
 Calls Try.prog 9 #[.slice A0 l0.length c0, .int .i64 a1] w fun e w' => e = .returned (.bool r) ∧ Drawn0 w w' := by
 have HR0 := Aside0.mk hr0
 have HC0 := Aside0.mk hc0
 clear hr0 hc0
 have H : (if (l0.length : Int) > a1 then (some false) else (quartermasterref18_Few.l0 k l0 0)) = some r := h
 clear h
 by_cases c3 : (l0.length : Int) > a1
 ·rw [if_pos c3] at H
  have c3b0 : decide (a1 < (l0.length : Int)) = true := decide_eq_true c3
  clear c3
  obtain rfl := Option.some.inj H
  go_enter Try.func9, Try.ntmps9
  go_wp2
  go_ret
  exact ⟨by first | rfl | (simp; done) | (simp [*]; done), by repeat (first | exact Drawn0.refl _ | apply Drawn0.step)⟩
 rw [if_neg c3] at H
 have c3b0 : decide (a1 < (l0.length : Int)) = false := decide_eq_false c3
 clear c3
 have H' := Aside0.mk H
 clear H
 go_enter Try.func9, Try.ntmps9
 go_wp2
 go_loopg [5] k (fun kq v5 w' => ∃ (x5_1 : Int), v5 = .int .i64 x5_1 ∧ Aside0 (quartermasterref18_Few.l0 kq l0 x5_1 = some r) ∧ Aside0 (kq ≤ k) ∧ Drawn0 w w')
 case atStart => exact ⟨(0), (by first | rfl | (simp; done) | (simp [*]; done)), H', ⟨Nat.le_refl _⟩, by repeat (first | exact Drawn0.refl _ | apply Drawn0.step)⟩
 case round =>
  clear H'
  try clear p2
  try clear c3
  try clear c3b0
  obtain ⟨x5_1, rfl, HA, HK1, ⟨m1, rfl⟩⟩ := hrel
  cases gk with
  | zero => exact absurd HA.out (by simp [quartermasterref18_Few.l0])
  | succ k1 =>
   have H := HA.out
   clear HA
   simp only [quartermasterref18_Few.l0] at H
   by_cases c4 : x5_1 < (l0.length : Int)
   rotate_left
   ·rw [if_neg c4] at H
    have c4b0 : decide (x5_1 < (l0.length : Int)) = false := decide_eq_false c4
    clear c4
    obtain rfl := Option.some.inj H
    go_wp2
    go_ret
    exact ⟨by first | rfl | (simp; done) | (simp [*]; done), by repeat (first | exact Drawn0.refl _ | apply Drawn0.step)⟩
     
   rw [if_pos c4] at H
   have c4b0 : decide (x5_1 < (l0.length : Int)) = true := decide_eq_true c4
   clear c4
   by_cases c5 : 0 ≤ x5_1
   rotate_left
   ·rw [if_neg c5] at H
    exact absurd H (by simp)
   rw [if_pos c5] at H
   have c5b0 : decide (0 ≤ x5_1) = true := decide_eq_true c5
   clear c5
   by_cases c6 : (((rd_T25 l0 x5_1).f2).length : Int) > 20
   ·rw [if_pos c6] at H
    have c6b0 : decide (20 < (((rd_T25 l0 x5_1).f2).length : Int)) = true := decide_eq_true c6
    have c6b1 : decide (20 < ((rd_T25 l0 x5_1).f2).length) = true := decide_eq_true (by omega)
    clear c6
    obtain rfl := Option.some.inj H
    have p101 : 0 ≤ (x5_1 : Int) := of_decide_eq_true (by first | (with_reducible assumption) | assumption)
    have q101 : x5_1 < (l0.length : Int) := of_decide_eq_true (by first | (with_reducible assumption) | assumption)
    obtain ⟨ad101, A101_2, c101_2, e101, hx101_0, hx101_1, hx101_2, hl101_2, hi101_2⟩ := at_T25 HR0.out x5_1 p101 q101
    cases e101
    have HR101_2 := Aside0.mk hi101_2
    have HC101_2 := Aside0.mk hl101_2
    clear hi101_2 hl101_2
    replace p101 := eq_true p101
    replace q101 := eq_true q101
    go_wp2
    go_ret
    exact ⟨by first | rfl | (simp; done) | (simp [*]; done), by repeat (first | exact Drawn0.refl _ | apply Drawn0.step)⟩
   rw [if_neg c6] at H
   have c6b0 : decide (20 < (((rd_T25 l0 x5_1).f2).length : Int)) = false := decide_eq_false c6
   have c6b1 : decide (20 < ((rd_T25 l0 x5_1).f2).length) = false := decide_eq_false (by omega)
   clear c6
   have H' := Aside0.mk H
   clear H
   have p101 : 0 ≤ (x5_1 : Int) := of_decide_eq_true (by first | (with_reducible assumption) | assumption)
   have q101 : x5_1 < (l0.length : Int) := of_decide_eq_true (by first | (with_reducible assumption) | assumption)
   obtain ⟨ad101, A101_2, c101_2, e101, hx101_0, hx101_1, hx101_2, hl101_2, hi101_2⟩ := at_T25 HR0.out x5_1 p101 q101
   cases e101
   have HR101_2 := Aside0.mk hi101_2
   have HC101_2 := Aside0.mk hl101_2
   clear hi101_2 hl101_2
   replace p101 := eq_true p101
   replace q101 := eq_true q101
   go_wp2
   go_roundg k1
   case measure => have := HK1.out; omega
   case rel => exact ⟨(wrap64 (x5_1 + 1)), (by first | rfl | (simp; done) | (simp [*]; done)), H', ⟨by have := HK1.out; omega⟩, by repeat (first | exact Drawn0.refl _ | apply Drawn0.step)⟩
/-! ### quartermasterref18_Lines: function 15 -/
def quartermasterref18_Lines.l0 : Nat → List (S33) → List (S33) → Int → Option (Bool)
 | 0, _, _, _ => none
 | k + 1, x0, x1, x5 => if x5 < (x0.length : Int) then (if 0 ≤ x5 then (if x5 < (x1.length : Int) then (if (!(((rd_T33 x0 x5).f0) == ((rd_T33 x1 x5).f0)) || (!(((rd_T33 x0 x5).f1) == ((rd_T33 x1 x5).f1)) || (!(((rd_T33 x0 x5).f2) == ((rd_T33 x1 x5).f2))))) = true then (some false) else (quartermasterref18_Lines.l0 k x0 x1 (wrap64 (x5 + 1)))) else (none)) else (none)) else (some true)
def quartermasterref18_Lines.f (k : Nat) (l0 : List (S33)) (l1 : List (S33)) : Option (Bool) := if (l0.length : Int) = (l1.length : Int) then (quartermasterref18_Lines.l0 k l0 l1 0) else (some false)
theorem quartermasterref18_Lines.mono_l : ∀ k, (∀ y0 y1 y2, LeO (quartermasterref18_Lines.l0 k y0 y1 y2) (quartermasterref18_Lines.l0 (k + 1) y0 y1 y2))
 | 0 => fun _ _ _ r h => by simp [quartermasterref18_Lines.l0] at h
 | k + 1 => by
  have ih0 := quartermasterref18_Lines.mono_l k
  intro y0 y1 y2
  unfold quartermasterref18_Lines.l0
  repeat' first
  | (with_reducible exact ih0 _ _ _)
  | (with_reducible exact LeO.refl _)
  | (with_reducible exact LeO.none _)
  | (with_reducible refine LeO.ite ?_ ?_)
  | (with_reducible refine LeO.bind ?_ (fun _ => ?_))
  | exact ih0 _ _ _
  | exact LeO.none _
  | refine LeO.ite ?_ ?_
  | refine LeO.bind ?_ (fun _ => ?_)
theorem quartermasterref18_Lines.mono : ∀ a0 a1 k, LeO (quartermasterref18_Lines.f k a0 a1) (quartermasterref18_Lines.f (k + 1) a0 a1) := by
 intro a0 a1 k
 have ih0 := quartermasterref18_Lines.mono_l k
 unfold quartermasterref18_Lines.f
 repeat' first
  | (with_reducible exact ih0 _ _ _)
  | (with_reducible exact LeO.refl _)
  | (with_reducible exact LeO.none _)
  | (with_reducible refine LeO.ite ?_ ?_)
  | (with_reducible refine LeO.bind ?_ (fun _ => ?_))
  | exact ih0 _ _ _
  | exact LeO.none _
  | refine LeO.ite ?_ ?_
  | refine LeO.bind ?_ (fun _ => ?_)
set_option maxHeartbeats 8000000 in
set_option maxRecDepth 100000 in
theorem quartermasterref18_Lines.calls (k : Nat) (A0 : Option Addr) (c0 : Nat) (l0 : List (S33)) (A1 : Option Addr) (c1 : Nat) (l1 : List (S33)) (r : Bool) (w : World) (hr0 : Kd.C k33 w A0 l0.length l0) (hc0 : l0.length ≤ c0) (hr1 : Kd.C k33 w A1 l1.length l1) (hc1 : l1.length ≤ c1) (h : quartermasterref18_Lines.f k l0 l1 = some r) :
 Calls Try.prog 15 #[.slice A0 l0.length c0, .slice A1 l1.length c1] w fun e w' => e = .returned (.bool r) ∧ Drawn0 w w' := by
 have hu33 := Try.underlying33
 have HR0 := Aside0.mk hr0
 have HC0 := Aside0.mk hc0
 clear hr0 hc0
 have HR1 := Aside0.mk hr1
 have HC1 := Aside0.mk hc1
 clear hr1 hc1
 have H : (if (l0.length : Int) = (l1.length : Int) then (quartermasterref18_Lines.l0 k l0 l1 0) else (some false)) = some r := h
 clear h
 by_cases c3 : (l0.length : Int) = (l1.length : Int)
 rotate_left
 ·rw [if_neg c3] at H
  have c3b0 : ((l0.length : Int) == (l1.length : Int)) = false := beq_eq_false_iff_ne.mpr c3
  have c3b1 : ((l0.length : Int) != (l1.length : Int)) = true := bne_iff_ne.mpr c3
  have c3b2 : (l0.length == l1.length) = false := by first | simpa using c3 | (simp at c3 ⊢; omega)
  obtain rfl := Option.some.inj H
  go_enter Try.func15, Try.ntmps15
  go_wp2
  repeat (go_quiet (fail); try go_wp2)
  go_ret
  exact ⟨by first | rfl | (simp; done) | (simp [*]; done), by repeat (first | exact Drawn0.refl _ | apply Drawn0.step)⟩
   
 rw [if_pos c3] at H
 have c3b0 : ((l0.length : Int) == (l1.length : Int)) = true := beq_iff_eq.mpr c3
 have c3b1 : ((l0.length : Int) != (l1.length : Int)) = false := bne_eq_false_iff_eq.mpr c3
 have c3b2 : (l0.length == l1.length) = true := by first | simpa using c3 | (simp at c3 ⊢; omega)
 clear c3
 have H' := Aside0.mk H
 clear H
 go_enter Try.func15, Try.ntmps15
 go_wp2
 repeat (go_quiet (fail); try go_wp2)
 go_loopg [5] k (fun kq v5 w' => ∃ (x5_1 : Int), v5 = .int .i64 x5_1 ∧ Aside0 (quartermasterref18_Lines.l0 kq l0 l1 x5_1 = some r) ∧ Aside0 (kq ≤ k) ∧ Drawn0 w w')
 case atStart => exact ⟨(0), (by first | rfl | (simp; done) | (simp [*]; done)), H', ⟨Nat.le_refl _⟩, by repeat (first | exact Drawn0.refl _ | apply Drawn0.step)⟩
 case round =>
  clear H'
  try clear c1
  try clear p2
  try clear c3
  try clear c3b0
  try clear c3b1
  try clear c3b2
  obtain ⟨x5_1, rfl, HA, HK1, ⟨m1, rfl⟩⟩ := hrel
  cases gk with
  | zero => exact absurd HA.out (by simp [quartermasterref18_Lines.l0])
  | succ k1 =>
   have H := HA.out
   clear HA
   simp only [quartermasterref18_Lines.l0] at H
   by_cases c4 : x5_1 < (l0.length : Int)
   rotate_left
   ·rw [if_neg c4] at H
    have c4b0 : decide (x5_1 < (l0.length : Int)) = false := decide_eq_false c4
    clear c4
    obtain rfl := Option.some.inj H
    go_wp2
    repeat (go_quiet (fail); try go_wp2)
    go_ret
    exact ⟨by first | rfl | (simp; done) | (simp [*]; done), by repeat (first | exact Drawn0.refl _ | apply Drawn0.step)⟩
   rw [if_pos c4] at H
   have c4b0 : decide (x5_1 < (l0.length : Int)) = true := decide_eq_true c4
   clear c4
   by_cases c5 : 0 ≤ x5_1
   rotate_left
   ·rw [if_neg c5] at H
    exact absurd H (by simp)
   rw [if_pos c5] at H
   have c5b0 : decide (0 ≤ x5_1) = true := decide_eq_true c5
   clear c5
   by_cases c6 : x5_1 < (l1.length : Int)
   rotate_left
   ·rw [if_neg c6] at H
    exact absurd H (by simp)
   rw [if_pos c6] at H
   have c6b0 : decide (x5_1 < (l1.length : Int)) = true := decide_eq_true c6
   clear c6
   by_cases c7 : (!(((rd_T33 l0 x5_1).f0) == ((rd_T33 l1 x5_1).f0)) || (!(((rd_T33 l0 x5_1).f1) == ((rd_T33 l1 x5_1).f1)) || (!(((rd_T33 l0 x5_1).f2) == ((rd_T33 l1 x5_1).f2))))) = true
   ·rw [if_pos c7] at H
    have c7b0 : (!(((rd_T33 l0 x5_1).f0) == ((rd_T33 l1 x5_1).f0)) || (!(((rd_T33 l0 x5_1).f1) == ((rd_T33 l1 x5_1).f1)) || (!(((rd_T33 l0 x5_1).f2) == ((rd_T33 l1 x5_1).f2))))) = true := c7
    clear c7
    obtain rfl := Option.some.inj H
    have p102 : 0 ≤ (x5_1 : Int) := of_decide_eq_true (by first | (with_reducible assumption) | assumption)
    have q102 : x5_1 < (l0.length : Int) := of_decide_eq_true (by first | (with_reducible assumption) | assumption)
    obtain ⟨ad102, e102, hx102_0, hx102_1, hx102_2⟩ := at_T33 HR0.out x5_1 p102 q102
    cases e102
    replace p102 := eq_true p102
    replace q102 := eq_true q102
    have p103 : 0 ≤ (x5_1 : Int) := of_decide_eq_true (by first | (with_reducible assumption) | assumption)
    have q103 : x5_1 < (l1.length : Int) := of_decide_eq_true (by first | (with_reducible assumption) | assumption)
    obtain ⟨ad103, e103, hx103_0, hx103_1, hx103_2⟩ := at_T33 HR1.out x5_1 p103 q103
    cases e103
    replace p103 := eq_true p103
    replace q103 := eq_true q103
    go_wp2
    repeat (go_quiet (fail); try go_wp2)
    go_ret
    exact ⟨by first | rfl | (simp; done) | (simp [*]; done), by repeat (first | exact Drawn0.refl _ | apply Drawn0.step)⟩
   rw [if_neg c7] at H
   have c7b0 : (!(((rd_T33 l0 x5_1).f0) == ((rd_T33 l1 x5_1).f0)) || (!(((rd_T33 l0 x5_1).f1) == ((rd_T33 l1 x5_1).f1)) || (!(((rd_T33 l0 x5_1).f2) == ((rd_T33 l1 x5_1).f2))))) = false := by simpa using c7
   clear c7
   have H' := Aside0.mk H
   clear H
   have p102 : 0 ≤ (x5_1 : Int) := of_decide_eq_true (by first | (with_reducible assumption) | assumption)
   have q102 : x5_1 < (l0.length : Int) := of_decide_eq_true (by first | (with_reducible assumption) | assumption)
   obtain ⟨ad102, e102, hx102_0, hx102_1, hx102_2⟩ := at_T33 HR0.out x5_1 p102 q102
   cases e102
   replace p102 := eq_true p102
   replace q102 := eq_true q102
   have p103 : 0 ≤ (x5_1 : Int) := of_decide_eq_true (by first | (with_reducible assumption) | assumption)
   have q103 : x5_1 < (l1.length : Int) := of_decide_eq_true (by first | (with_reducible assumption) | assumption)
   obtain ⟨ad103, e103, hx103_0, hx103_1, hx103_2⟩ := at_T33 HR1.out x5_1 p103 q103
   cases e103
   replace p103 := eq_true p103
   replace q103 := eq_true q103
   go_wp2
   repeat (go_quiet (fail); try go_wp2)
   go_roundg k1
   case measure => have := HK1.out; omega
   case rel => exact ⟨(wrap64 (x5_1 + 1)), (by first | rfl | (simp; done) | (simp [*]; done)), H', ⟨by have := HK1.out; omega⟩, by repeat (first | exact Drawn0.refl _ | apply Drawn0.step)⟩
/-! ### quartermasterref18_Same: function 14 -/
def quartermasterref18_Same.l0 : Nat → List (S25) → List (S25) → Int → Option (Bool)
 | 0, _, _, _ => none
 | k + 1, x0, x1, x5 => if x5 < (x0.length : Int) then (if 0 ≤ x5 then (if x5 < (x1.length : Int) then ((quartermasterref18_Lines.f k ((rd_T25 x0 x5).f2) ((rd_T25 x1 x5).f2)).bind fun t106 => (if t106 = true then (if ((rd_T25 x0 x5).f0) = ((rd_T25 x1 x5).f0) then (if ((rd_T25 x0 x5).f1) = ((rd_T25 x1 x5).f1) then (quartermasterref18_Same.l0 k x0 x1 (wrap64 (x5 + 1))) else (some false)) else (some false)) else (some false))) else (none)) else (none)) else (some true)
def quartermasterref18_Same.f (k : Nat) (l0 : List (S25)) (l1 : List (S25)) : Option (Bool) := if (l0.length : Int) = (l1.length : Int) then (quartermasterref18_Same.l0 k l0 l1 0) else (some false)
theorem quartermasterref18_Same.mono_l : ∀ k, (∀ y0 y1 y2, LeO (quartermasterref18_Same.l0 k y0 y1 y2) (quartermasterref18_Same.l0 (k + 1) y0 y1 y2))
 | 0 => fun _ _ _ r h => by simp [quartermasterref18_Same.l0] at h
 | k + 1 => by
  have ih0 := quartermasterref18_Same.mono_l k
  intro y0 y1 y2
  unfold quartermasterref18_Same.l0
  repeat' first
  | (with_reducible exact ih0 _ _ _)
  | (with_reducible exact quartermasterref18_Lines.mono _ _ _)
  | (with_reducible exact LeO.refl _)
  | (with_reducible exact LeO.none _)
  | (with_reducible refine LeO.ite ?_ ?_)
  | (with_reducible refine LeO.bind ?_ (fun _ => ?_))
  | exact ih0 _ _ _
  | exact quartermasterref18_Lines.mono _ _ _
  | exact LeO.none _
  | refine LeO.ite ?_ ?_
  | refine LeO.bind ?_ (fun _ => ?_)
theorem quartermasterref18_Same.mono : ∀ a0 a1 k, LeO (quartermasterref18_Same.f k a0 a1) (quartermasterref18_Same.f (k + 1) a0 a1) := by
 intro a0 a1 k
 have ih0 := quartermasterref18_Same.mono_l k
 unfold quartermasterref18_Same.f
 repeat' first
  | (with_reducible exact ih0 _ _ _)
  | (with_reducible exact quartermasterref18_Lines.mono _ _ _)
  | (with_reducible exact LeO.refl _)
  | (with_reducible exact LeO.none _)
  | (with_reducible refine LeO.ite ?_ ?_)
  | (with_reducible refine LeO.bind ?_ (fun _ => ?_))
  | exact ih0 _ _ _
  | exact quartermasterref18_Lines.mono _ _ _
  | exact LeO.none _
  | refine LeO.ite ?_ ?_
  | refine LeO.bind ?_ (fun _ => ?_)
set_option maxHeartbeats 8000000 in
set_option maxRecDepth 100000 in
theorem quartermasterref18_Same.calls (k : Nat) (A0 : Option Addr) (c0 : Nat) (l0 : List (S25)) (A1 : Option Addr) (c1 : Nat) (l1 : List (S25)) (r : Bool) (w : World) (hr0 : Kd.C k25 w A0 l0.length l0) (hc0 : l0.length ≤ c0) (hr1 : Kd.C k25 w A1 l1.length l1) (hc1 : l1.length ≤ c1) (h : quartermasterref18_Same.f k l0 l1 = some r) :
 Calls Try.prog 14 #[.slice A0 l0.length c0, .slice A1 l1.length c1] w fun e w' => e = .returned (.bool r) ∧ Drawn0 w w' := by
 have HR0 := Aside0.mk hr0
 have HC0 := Aside0.mk hc0
 clear hr0 hc0
 have HR1 := Aside0.mk hr1
 have HC1 := Aside0.mk hc1
 clear hr1 hc1
 have H : (if (l0.length : Int) = (l1.length : Int) then (quartermasterref18_Same.l0 k l0 l1 0) else (some false)) = some r := h
 clear h
 by_cases c3 : (l0.length : Int) = (l1.length : Int)
 rotate_left
 ·rw [if_neg c3] at H
  have c3b0 : ((l0.length : Int) == (l1.length : Int)) = false := beq_eq_false_iff_ne.mpr c3
  have c3b1 : ((l0.length : Int) != (l1.length : Int)) = true := bne_iff_ne.mpr c3
  have c3b2 : (l0.length == l1.length) = false := by first | simpa using c3 | (simp at c3 ⊢; omega)
  obtain rfl := Option.some.inj H
  go_enter Try.func14, Try.ntmps14
  go_wp2
  repeat (go_quiet (fail); try go_wp2)
  go_ret
  exact ⟨by first | rfl | (simp; done) | (simp [*]; done), by repeat (first | exact Drawn0.refl _ | apply Drawn0.step)⟩
   
 rw [if_pos c3] at H
 have c3b0 : ((l0.length : Int) == (l1.length : Int)) = true := beq_iff_eq.mpr c3
 have c3b1 : ((l0.length : Int) != (l1.length : Int)) = false := bne_eq_false_iff_eq.mpr c3
 have c3b2 : (l0.length == l1.length) = true := by first | simpa using c3 | (simp at c3 ⊢; omega)
 clear c3
 have H' := Aside0.mk H
 clear H
 go_enter Try.func14, Try.ntmps14
 go_wp2
 repeat (go_quiet (fail); try go_wp2)
 go_loopg [5] k (fun kq v5 w' => ∃ (x5_1 : Int), v5 = .int .i64 x5_1 ∧ Aside0 (quartermasterref18_Same.l0 kq l0 l1 x5_1 = some r) ∧ Aside0 (kq ≤ k) ∧ Drawn0 w w')
 case atStart => exact ⟨(0), (by first | rfl | (simp; done) | (simp [*]; done)), H', ⟨Nat.le_refl _⟩, by repeat (first | exact Drawn0.refl _ | apply Drawn0.step)⟩
 case round =>
  clear H'
  try clear c1
  try clear p2
  try clear c3
  try clear c3b0
  try clear c3b1
  try clear c3b2
  obtain ⟨x5_1, rfl, HA, HK1, ⟨m1, rfl⟩⟩ := hrel
  cases gk with
  | zero => exact absurd HA.out (by simp [quartermasterref18_Same.l0])
  | succ k1 =>
   have H := HA.out
   clear HA
   simp only [quartermasterref18_Same.l0] at H
   by_cases c4 : x5_1 < (l0.length : Int)
   rotate_left
   ·rw [if_neg c4] at H
    have c4b0 : decide (x5_1 < (l0.length : Int)) = false := decide_eq_false c4
    clear c4
    obtain rfl := Option.some.inj H
    go_wp2
    repeat (go_quiet (fail); try go_wp2)
    go_ret
    exact ⟨by first | rfl | (simp; done) | (simp [*]; done), by repeat (first | exact Drawn0.refl _ | apply Drawn0.step)⟩
   rw [if_pos c4] at H
   have c4b0 : decide (x5_1 < (l0.length : Int)) = true := decide_eq_true c4
   clear c4
   by_cases c5 : 0 ≤ x5_1
   rotate_left
   ·rw [if_neg c5] at H
    exact absurd H (by simp)
   rw [if_pos c5] at H
   have c5b0 : decide (0 ≤ x5_1) = true := decide_eq_true c5
   clear c5
   by_cases c6 : x5_1 < (l1.length : Int)
   rotate_left
   ·rw [if_neg c6] at H
    exact absurd H (by simp)
   rw [if_pos c6] at H
   have c6b0 : decide (x5_1 < (l1.length : Int)) = true := decide_eq_true c6
   clear c6
   replace H := Option.bind_eq_some_iff.mp H
   obtain ⟨t106, A70, H⟩ := H
   replace H : (if t106 = true then (if ((rd_T25 l0 x5_1).f0) = ((rd_T25 l1 x5_1).f0) then (if ((rd_T25 l0 x5_1).f1) = ((rd_T25 l1 x5_1).f1) then (quartermasterref18_Same.l0 k1 l0 l1 (wrap64 (x5_1 + 1))) else (some false)) else (some false)) else (some false)) = some r := H
   have A7 := Aside0.mk A70
   clear A70
   by_cases c8 : t106 = true
   rotate_left
   ·replace c8 := Bool.eq_false_iff.mpr c8
    subst c8
    have H1 : (some false) = some r := by rw [if_neg (show ¬ (false = true) by decide)] at H; exact H
    clear H
    have H := H1
    clear H1
    obtain rfl := Option.some.inj H
    have p104 : 0 ≤ (x5_1 : Int) := of_decide_eq_true (by first | (with_reducible assumption) | assumption)
    have q104 : x5_1 < (l0.length : Int) := of_decide_eq_true (by first | (with_reducible assumption) | assumption)
    obtain ⟨ad104, A104_2, c104_2, e104, hx104_0, hx104_1, hx104_2, hl104_2, hi104_2⟩ := at_T25 HR0.out x5_1 p104 q104
    cases e104
    have HR104_2 := Aside0.mk hi104_2
    have HC104_2 := Aside0.mk hl104_2
    clear hi104_2 hl104_2
    replace p104 := eq_true p104
    replace q104 := eq_true q104
    have p105 : 0 ≤ (x5_1 : Int) := of_decide_eq_true (by first | (with_reducible assumption) | assumption)
    have q105 : x5_1 < (l1.length : Int) := of_decide_eq_true (by first | (with_reducible assumption) | assumption)
    obtain ⟨ad105, A105_2, c105_2, e105, hx105_0, hx105_1, hx105_2, hl105_2, hi105_2⟩ := at_T25 HR1.out x5_1 p105 q105
    cases e105
    have HR105_2 := Aside0.mk hi105_2
    have HC105_2 := Aside0.mk hl105_2
    clear hi105_2 hl105_2
    replace p105 := eq_true p105
    replace q105 := eq_true q105
    go_wp2_with (first | (go_at_call 15; (with_reducible refine (quartermasterref18_Lines.calls k1 _ _ ((rd_T25 l0 x5_1).f2) _ _ ((rd_T25 l1 x5_1).f2) false _ ?side1 ?side2 ?side3 ?side4 A7.out).mono ?_); (case side1 => repeat (first | exact HR104_2.out | (with_reducible refine Kd.C_alloc ?_ _) | (with_reducible refine Kd.C_drewN ?_ _) | (with_reducible refine Kd.C_drew ?_))); (case side2 => exact HC104_2.out); (case side3 => repeat (first | exact HR105_2.out | (with_reducible refine Kd.C_alloc ?_ _) | (with_reducible refine Kd.C_drewN ?_ _) | (with_reducible refine Kd.C_drew ?_))); (case side4 => exact HC105_2.out); rintro e w' ⟨rfl, ⟨nd, rfl⟩⟩; (try first | exact ⟨rfl, _, World.drewN_drewN _ _ _⟩ | exact ⟨rfl, _, Eq.trans (World.drewN_drewN _ _ _) (congrArg (World.drewN _) (Nat.add_assoc _ _ _))⟩)))
    repeat (go_quiet (first | (go_at_call 15; (with_reducible refine (quartermasterref18_Lines.calls k1 _ _ ((rd_T25 l0 x5_1).f2) _ _ ((rd_T25 l1 x5_1).f2) false _ ?side1 ?side2 ?side3 ?side4 A7.out).mono ?_); (case side1 => repeat (first | exact HR104_2.out | (with_reducible refine Kd.C_alloc ?_ _) | (with_reducible refine Kd.C_drewN ?_ _) | (with_reducible refine Kd.C_drew ?_))); (case side2 => exact HC104_2.out); (case side3 => repeat (first | exact HR105_2.out | (with_reducible refine Kd.C_alloc ?_ _) | (with_reducible refine Kd.C_drewN ?_ _) | (with_reducible refine Kd.C_drew ?_))); (case side4 => exact HC105_2.out); rintro e w' ⟨rfl, ⟨nd, rfl⟩⟩; (try first | exact ⟨rfl, _, World.drewN_drewN _ _ _⟩ | exact ⟨rfl, _, Eq.trans (World.drewN_drewN _ _ _) (congrArg (World.drewN _) (Nat.add_assoc _ _ _))⟩))); try go_wp2_with (first | (go_at_call 15; (with_reducible refine (quartermasterref18_Lines.calls k1 _ _ ((rd_T25 l0 x5_1).f2) _ _ ((rd_T25 l1 x5_1).f2) false _ ?side1 ?side2 ?side3 ?side4 A7.out).mono ?_); (case side1 => repeat (first | exact HR104_2.out | (with_reducible refine Kd.C_alloc ?_ _) | (with_reducible refine Kd.C_drewN ?_ _) | (with_reducible refine Kd.C_drew ?_))); (case side2 => exact HC104_2.out); (case side3 => repeat (first | exact HR105_2.out | (with_reducible refine Kd.C_alloc ?_ _) | (with_reducible refine Kd.C_drewN ?_ _) | (with_reducible refine Kd.C_drew ?_))); (case side4 => exact HC105_2.out); rintro e w' ⟨rfl, ⟨nd, rfl⟩⟩; (try first | exact ⟨rfl, _, World.drewN_drewN _ _ _⟩ | exact ⟨rfl, _, Eq.trans (World.drewN_drewN _ _ _) (congrArg (World.drewN _) (Nat.add_assoc _ _ _))⟩))))
    go_ret
    exact ⟨by first | rfl | (simp; done) | (simp [*]; done), by repeat (first | exact Drawn0.refl _ | apply Drawn0.step)⟩
   subst c8
   have H1 : (if ((rd_T25 l0 x5_1).f0) = ((rd_T25 l1 x5_1).f0) then (if ((rd_T25 l0 x5_1).f1) = ((rd_T25 l1 x5_1).f1) then (quartermasterref18_Same.l0 k1 l0 l1 (wrap64 (x5_1 + 1))) else (some false)) else (some false)) = some r := by rw [if_pos rfl] at H; exact H
   clear H
   have H := H1
   clear H1
   by_cases c9 : ((rd_T25 l0 x5_1).f0) = ((rd_T25 l1 x5_1).f0)
   rotate_left
   ·rw [if_neg c9] at H
    have c9b0 : (((rd_T25 l0 x5_1).f0) == ((rd_T25 l1 x5_1).f0)) = false := beq_eq_false_iff_ne.mpr c9
    have c9b1 : (((rd_T25 l0 x5_1).f0) != ((rd_T25 l1 x5_1).f0)) = true := bne_iff_ne.mpr c9
    obtain rfl := Option.some.inj H
    have p104 : 0 ≤ (x5_1 : Int) := of_decide_eq_true (by first | (with_reducible assumption) | assumption)
    have q104 : x5_1 < (l0.length : Int) := of_decide_eq_true (by first | (with_reducible assumption) | assumption)
    obtain ⟨ad104, A104_2, c104_2, e104, hx104_0, hx104_1, hx104_2, hl104_2, hi104_2⟩ := at_T25 HR0.out x5_1 p104 q104
    cases e104
    have HR104_2 := Aside0.mk hi104_2
    have HC104_2 := Aside0.mk hl104_2
    clear hi104_2 hl104_2
    replace p104 := eq_true p104
    replace q104 := eq_true q104
    have p105 : 0 ≤ (x5_1 : Int) := of_decide_eq_true (by first | (with_reducible assumption) | assumption)
    have q105 : x5_1 < (l1.length : Int) := of_decide_eq_true (by first | (with_reducible assumption) | assumption)
    obtain ⟨ad105, A105_2, c105_2, e105, hx105_0, hx105_1, hx105_2, hl105_2, hi105_2⟩ := at_T25 HR1.out x5_1 p105 q105
    cases e105
    have HR105_2 := Aside0.mk hi105_2
    have HC105_2 := Aside0.mk hl105_2
    clear hi105_2 hl105_2
    replace p105 := eq_true p105
    replace q105 := eq_true q105
    go_wp2_with (first | (go_at_call 15; (with_reducible refine (quartermasterref18_Lines.calls k1 _ _ ((rd_T25 l0 x5_1).f2) _ _ ((rd_T25 l1 x5_1).f2) true _ ?side1 ?side2 ?side3 ?side4 A7.out).mono ?_); (case side1 => repeat (first | exact HR104_2.out | (with_reducible refine Kd.C_alloc ?_ _) | (with_reducible refine Kd.C_drewN ?_ _) | (with_reducible refine Kd.C_drew ?_))); (case side2 => exact HC104_2.out); (case side3 => repeat (first | exact HR105_2.out | (with_reducible refine Kd.C_alloc ?_ _) | (with_reducible refine Kd.C_drewN ?_ _) | (with_reducible refine Kd.C_drew ?_))); (case side4 => exact HC105_2.out); rintro e w' ⟨rfl, ⟨nd, rfl⟩⟩; (try first | exact ⟨rfl, _, World.drewN_drewN _ _ _⟩ | exact ⟨rfl, _, Eq.trans (World.drewN_drewN _ _ _) (congrArg (World.drewN _) (Nat.add_assoc _ _ _))⟩); have p107 : 0 ≤ (x5_1 : Int) := of_decide_eq_true (by first | (with_reducible assumption) | assumption); have q107 : x5_1 < (l0.length : Int) := of_decide_eq_true (by first | (with_reducible assumption) | assumption); obtain ⟨ad107, A107_2, c107_2, e107, hx107_0, hx107_1, hx107_2, hl107_2, hi107_2⟩ := at_T25 HR0.out x5_1 p107 q107; obtain rfl : ad104 = ad107 := (by injection e107); have HR107_2 := Aside0.mk hi107_2; have HC107_2 := Aside0.mk hl107_2; clear hi107_2 hl107_2; replace p107 := eq_true p107; replace q107 := eq_true q107; have ea_ := Option.some.inj (hx104_2.symm.trans hx107_2); injection ea_ with ea_ en_ ec_; subst ea_; subst ec_; clear en_; have p108 : 0 ≤ (x5_1 : Int) := of_decide_eq_true (by first | (with_reducible assumption) | assumption); have q108 : x5_1 < (l1.length : Int) := of_decide_eq_true (by first | (with_reducible assumption) | assumption); obtain ⟨ad108, A108_2, c108_2, e108, hx108_0, hx108_1, hx108_2, hl108_2, hi108_2⟩ := at_T25 HR1.out x5_1 p108 q108; obtain rfl : ad105 = ad108 := (by injection e108); have HR108_2 := Aside0.mk hi108_2; have HC108_2 := Aside0.mk hl108_2; clear hi108_2 hl108_2; replace p108 := eq_true p108; replace q108 := eq_true q108; have ea_ := Option.some.inj (hx105_2.symm.trans hx108_2); injection ea_ with ea_ en_ ec_; subst ea_; subst ec_; clear en_))
    repeat (go_quiet (first | (go_at_call 15; (with_reducible refine (quartermasterref18_Lines.calls k1 _ _ ((rd_T25 l0 x5_1).f2) _ _ ((rd_T25 l1 x5_1).f2) true _ ?side1 ?side2 ?side3 ?side4 A7.out).mono ?_); (case side1 => repeat (first | exact HR104_2.out | (with_reducible refine Kd.C_alloc ?_ _) | (with_reducible refine Kd.C_drewN ?_ _) | (with_reducible refine Kd.C_drew ?_))); (case side2 => exact HC104_2.out); (case side3 => repeat (first | exact HR105_2.out | (with_reducible refine Kd.C_alloc ?_ _) | (with_reducible refine Kd.C_drewN ?_ _) | (with_reducible refine Kd.C_drew ?_))); (case side4 => exact HC105_2.out); rintro e w' ⟨rfl, ⟨nd, rfl⟩⟩; (try first | exact ⟨rfl, _, World.drewN_drewN _ _ _⟩ | exact ⟨rfl, _, Eq.trans (World.drewN_drewN _ _ _) (congrArg (World.drewN _) (Nat.add_assoc _ _ _))⟩); have p107 : 0 ≤ (x5_1 : Int) := of_decide_eq_true (by first | (with_reducible assumption) | assumption); have q107 : x5_1 < (l0.length : Int) := of_decide_eq_true (by first | (with_reducible assumption) | assumption); obtain ⟨ad107, A107_2, c107_2, e107, hx107_0, hx107_1, hx107_2, hl107_2, hi107_2⟩ := at_T25 HR0.out x5_1 p107 q107; obtain rfl : ad104 = ad107 := (by injection e107); have HR107_2 := Aside0.mk hi107_2; have HC107_2 := Aside0.mk hl107_2; clear hi107_2 hl107_2; replace p107 := eq_true p107; replace q107 := eq_true q107; have ea_ := Option.some.inj (hx104_2.symm.trans hx107_2); injection ea_ with ea_ en_ ec_; subst ea_; subst ec_; clear en_; have p108 : 0 ≤ (x5_1 : Int) := of_decide_eq_true (by first | (with_reducible assumption) | assumption); have q108 : x5_1 < (l1.length : Int) := of_decide_eq_true (by first | (with_reducible assumption) | assumption); obtain ⟨ad108, A108_2, c108_2, e108, hx108_0, hx108_1, hx108_2, hl108_2, hi108_2⟩ := at_T25 HR1.out x5_1 p108 q108; obtain rfl : ad105 = ad108 := (by injection e108); have HR108_2 := Aside0.mk hi108_2; have HC108_2 := Aside0.mk hl108_2; clear hi108_2 hl108_2; replace p108 := eq_true p108; replace q108 := eq_true q108; have ea_ := Option.some.inj (hx105_2.symm.trans hx108_2); injection ea_ with ea_ en_ ec_; subst ea_; subst ec_; clear en_)); try go_wp2_with (first | (go_at_call 15; (with_reducible refine (quartermasterref18_Lines.calls k1 _ _ ((rd_T25 l0 x5_1).f2) _ _ ((rd_T25 l1 x5_1).f2) true _ ?side1 ?side2 ?side3 ?side4 A7.out).mono ?_); (case side1 => repeat (first | exact HR104_2.out | (with_reducible refine Kd.C_alloc ?_ _) | (with_reducible refine Kd.C_drewN ?_ _) | (with_reducible refine Kd.C_drew ?_))); (case side2 => exact HC104_2.out); (case side3 => repeat (first | exact HR105_2.out | (with_reducible refine Kd.C_alloc ?_ _) | (with_reducible refine Kd.C_drewN ?_ _) | (with_reducible refine Kd.C_drew ?_))); (case side4 => exact HC105_2.out); rintro e w' ⟨rfl, ⟨nd, rfl⟩⟩; (try first | exact ⟨rfl, _, World.drewN_drewN _ _ _⟩ | exact ⟨rfl, _, Eq.trans (World.drewN_drewN _ _ _) (congrArg (World.drewN _) (Nat.add_assoc _ _ _))⟩); have p107 : 0 ≤ (x5_1 : Int) := of_decide_eq_true (by first | (with_reducible assumption) | assumption); have q107 : x5_1 < (l0.length : Int) := of_decide_eq_true (by first | (with_reducible assumption) | assumption); obtain ⟨ad107, A107_2, c107_2, e107, hx107_0, hx107_1, hx107_2, hl107_2, hi107_2⟩ := at_T25 HR0.out x5_1 p107 q107; obtain rfl : ad104 = ad107 := (by injection e107); have HR107_2 := Aside0.mk hi107_2; have HC107_2 := Aside0.mk hl107_2; clear hi107_2 hl107_2; replace p107 := eq_true p107; replace q107 := eq_true q107; have ea_ := Option.some.inj (hx104_2.symm.trans hx107_2); injection ea_ with ea_ en_ ec_; subst ea_; subst ec_; clear en_; have p108 : 0 ≤ (x5_1 : Int) := of_decide_eq_true (by first | (with_reducible assumption) | assumption); have q108 : x5_1 < (l1.length : Int) := of_decide_eq_true (by first | (with_reducible assumption) | assumption); obtain ⟨ad108, A108_2, c108_2, e108, hx108_0, hx108_1, hx108_2, hl108_2, hi108_2⟩ := at_T25 HR1.out x5_1 p108 q108; obtain rfl : ad105 = ad108 := (by injection e108); have HR108_2 := Aside0.mk hi108_2; have HC108_2 := Aside0.mk hl108_2; clear hi108_2 hl108_2; replace p108 := eq_true p108; replace q108 := eq_true q108; have ea_ := Option.some.inj (hx105_2.symm.trans hx108_2); injection ea_ with ea_ en_ ec_; subst ea_; subst ec_; clear en_)))
    go_ret
    exact ⟨by first | rfl | (simp; done) | (simp [*]; done), by repeat (first | exact Drawn0.refl _ | apply Drawn0.step)⟩
   rw [if_pos c9] at H
   have c9b0 : (((rd_T25 l0 x5_1).f0) == ((rd_T25 l1 x5_1).f0)) = true := beq_iff_eq.mpr c9
   have c9b1 : (((rd_T25 l0 x5_1).f0) != ((rd_T25 l1 x5_1).f0)) = false := bne_eq_false_iff_eq.mpr c9
   clear c9
   by_cases c10 : ((rd_T25 l0 x5_1).f1) = ((rd_T25 l1 x5_1).f1)
   rotate_left
   ·rw [if_neg c10] at H
    have c10b0 : (((rd_T25 l0 x5_1).f1) == ((rd_T25 l1 x5_1).f1)) = false := beq_eq_false_iff_ne.mpr c10
    have c10b1 : (((rd_T25 l0 x5_1).f1) != ((rd_T25 l1 x5_1).f1)) = true := bne_iff_ne.mpr c10
    obtain rfl := Option.some.inj H
    have p104 : 0 ≤ (x5_1 : Int) := of_decide_eq_true (by first | (with_reducible assumption) | assumption)
    have q104 : x5_1 < (l0.length : Int) := of_decide_eq_true (by first | (with_reducible assumption) | assumption)
    obtain ⟨ad104, A104_2, c104_2, e104, hx104_0, hx104_1, hx104_2, hl104_2, hi104_2⟩ := at_T25 HR0.out x5_1 p104 q104
    cases e104
    have HR104_2 := Aside0.mk hi104_2
    have HC104_2 := Aside0.mk hl104_2
    clear hi104_2 hl104_2
    replace p104 := eq_true p104
    replace q104 := eq_true q104
    have p105 : 0 ≤ (x5_1 : Int) := of_decide_eq_true (by first | (with_reducible assumption) | assumption)
    have q105 : x5_1 < (l1.length : Int) := of_decide_eq_true (by first | (with_reducible assumption) | assumption)
    obtain ⟨ad105, A105_2, c105_2, e105, hx105_0, hx105_1, hx105_2, hl105_2, hi105_2⟩ := at_T25 HR1.out x5_1 p105 q105
    cases e105
    have HR105_2 := Aside0.mk hi105_2
    have HC105_2 := Aside0.mk hl105_2
    clear hi105_2 hl105_2
    replace p105 := eq_true p105
    replace q105 := eq_true q105
    go_wp2_with (first | (go_at_call 15; (with_reducible refine (quartermasterref18_Lines.calls k1 _ _ ((rd_T25 l0 x5_1).f2) _ _ ((rd_T25 l1 x5_1).f2) true _ ?side1 ?side2 ?side3 ?side4 A7.out).mono ?_); (case side1 => repeat (first | exact HR104_2.out | (with_reducible refine Kd.C_alloc ?_ _) | (with_reducible refine Kd.C_drewN ?_ _) | (with_reducible refine Kd.C_drew ?_))); (case side2 => exact HC104_2.out); (case side3 => repeat (first | exact HR105_2.out | (with_reducible refine Kd.C_alloc ?_ _) | (with_reducible refine Kd.C_drewN ?_ _) | (with_reducible refine Kd.C_drew ?_))); (case side4 => exact HC105_2.out); rintro e w' ⟨rfl, ⟨nd, rfl⟩⟩; (try first | exact ⟨rfl, _, World.drewN_drewN _ _ _⟩ | exact ⟨rfl, _, Eq.trans (World.drewN_drewN _ _ _) (congrArg (World.drewN _) (Nat.add_assoc _ _ _))⟩); have p107 : 0 ≤ (x5_1 : Int) := of_decide_eq_true (by first | (with_reducible assumption) | assumption); have q107 : x5_1 < (l0.length : Int) := of_decide_eq_true (by first | (with_reducible assumption) | assumption); obtain ⟨ad107, A107_2, c107_2, e107, hx107_0, hx107_1, hx107_2, hl107_2, hi107_2⟩ := at_T25 HR0.out x5_1 p107 q107; obtain rfl : ad104 = ad107 := (by injection e107); have HR107_2 := Aside0.mk hi107_2; have HC107_2 := Aside0.mk hl107_2; clear hi107_2 hl107_2; replace p107 := eq_true p107; replace q107 := eq_true q107; have ea_ := Option.some.inj (hx104_2.symm.trans hx107_2); injection ea_ with ea_ en_ ec_; subst ea_; subst ec_; clear en_; have p108 : 0 ≤ (x5_1 : Int) := of_decide_eq_true (by first | (with_reducible assumption) | assumption); have q108 : x5_1 < (l1.length : Int) := of_decide_eq_true (by first | (with_reducible assumption) | assumption); obtain ⟨ad108, A108_2, c108_2, e108, hx108_0, hx108_1, hx108_2, hl108_2, hi108_2⟩ := at_T25 HR1.out x5_1 p108 q108; obtain rfl : ad105 = ad108 := (by injection e108); have HR108_2 := Aside0.mk hi108_2; have HC108_2 := Aside0.mk hl108_2; clear hi108_2 hl108_2; replace p108 := eq_true p108; replace q108 := eq_true q108; have ea_ := Option.some.inj (hx105_2.symm.trans hx108_2); injection ea_ with ea_ en_ ec_; subst ea_; subst ec_; clear en_; have p109 : 0 ≤ (x5_1 : Int) := of_decide_eq_true (by first | (with_reducible assumption) | assumption); have q109 : x5_1 < (l0.length : Int) := of_decide_eq_true (by first | (with_reducible assumption) | assumption); obtain ⟨ad109, A109_2, c109_2, e109, hx109_0, hx109_1, hx109_2, hl109_2, hi109_2⟩ := at_T25 HR0.out x5_1 p109 q109; obtain rfl : ad104 = ad109 := (by injection e109); have HR109_2 := Aside0.mk hi109_2; have HC109_2 := Aside0.mk hl109_2; clear hi109_2 hl109_2; replace p109 := eq_true p109; replace q109 := eq_true q109; have ea_ := Option.some.inj (hx104_2.symm.trans hx109_2); injection ea_ with ea_ en_ ec_; subst ea_; subst ec_; clear en_; have p110 : 0 ≤ (x5_1 : Int) := of_decide_eq_true (by first | (with_reducible assumption) | assumption); have q110 : x5_1 < (l1.length : Int) := of_decide_eq_true (by first | (with_reducible assumption) | assumption); obtain ⟨ad110, A110_2, c110_2, e110, hx110_0, hx110_1, hx110_2, hl110_2, hi110_2⟩ := at_T25 HR1.out x5_1 p110 q110; obtain rfl : ad105 = ad110 := (by injection e110); have HR110_2 := Aside0.mk hi110_2; have HC110_2 := Aside0.mk hl110_2; clear hi110_2 hl110_2; replace p110 := eq_true p110; replace q110 := eq_true q110; have ea_ := Option.some.inj (hx105_2.symm.trans hx110_2); injection ea_ with ea_ en_ ec_; subst ea_; subst ec_; clear en_))
    repeat (go_quiet (first | (go_at_call 15; (with_reducible refine (quartermasterref18_Lines.calls k1 _ _ ((rd_T25 l0 x5_1).f2) _ _ ((rd_T25 l1 x5_1).f2) true _ ?side1 ?side2 ?side3 ?side4 A7.out).mono ?_); (case side1 => repeat (first | exact HR104_2.out | (with_reducible refine Kd.C_alloc ?_ _) | (with_reducible refine Kd.C_drewN ?_ _) | (with_reducible refine Kd.C_drew ?_))); (case side2 => exact HC104_2.out); (case side3 => repeat (first | exact HR105_2.out | (with_reducible refine Kd.C_alloc ?_ _) | (with_reducible refine Kd.C_drewN ?_ _) | (with_reducible refine Kd.C_drew ?_))); (case side4 => exact HC105_2.out); rintro e w' ⟨rfl, ⟨nd, rfl⟩⟩; (try first | exact ⟨rfl, _, World.drewN_drewN _ _ _⟩ | exact ⟨rfl, _, Eq.trans (World.drewN_drewN _ _ _) (congrArg (World.drewN _) (Nat.add_assoc _ _ _))⟩); have p107 : 0 ≤ (x5_1 : Int) := of_decide_eq_true (by first | (with_reducible assumption) | assumption); have q107 : x5_1 < (l0.length : Int) := of_decide_eq_true (by first | (with_reducible assumption) | assumption); obtain ⟨ad107, A107_2, c107_2, e107, hx107_0, hx107_1, hx107_2, hl107_2, hi107_2⟩ := at_T25 HR0.out x5_1 p107 q107; obtain rfl : ad104 = ad107 := (by injection e107); have HR107_2 := Aside0.mk hi107_2; have HC107_2 := Aside0.mk hl107_2; clear hi107_2 hl107_2; replace p107 := eq_true p107; replace q107 := eq_true q107; have ea_ := Option.some.inj (hx104_2.symm.trans hx107_2); injection ea_ with ea_ en_ ec_; subst ea_; subst ec_; clear en_; have p108 : 0 ≤ (x5_1 : Int) := of_decide_eq_true (by first | (with_reducible assumption) | assumption); have q108 : x5_1 < (l1.length : Int) := of_decide_eq_true (by first | (with_reducible assumption) | assumption); obtain ⟨ad108, A108_2, c108_2, e108, hx108_0, hx108_1, hx108_2, hl108_2, hi108_2⟩ := at_T25 HR1.out x5_1 p108 q108; obtain rfl : ad105 = ad108 := (by injection e108); have HR108_2 := Aside0.mk hi108_2; have HC108_2 := Aside0.mk hl108_2; clear hi108_2 hl108_2; replace p108 := eq_true p108; replace q108 := eq_true q108; have ea_ := Option.some.inj (hx105_2.symm.trans hx108_2); injection ea_ with ea_ en_ ec_; subst ea_; subst ec_; clear en_; have p109 : 0 ≤ (x5_1 : Int) := of_decide_eq_true (by first | (with_reducible assumption) | assumption); have q109 : x5_1 < (l0.length : Int) := of_decide_eq_true (by first | (with_reducible assumption) | assumption); obtain ⟨ad109, A109_2, c109_2, e109, hx109_0, hx109_1, hx109_2, hl109_2, hi109_2⟩ := at_T25 HR0.out x5_1 p109 q109; obtain rfl : ad104 = ad109 := (by injection e109); have HR109_2 := Aside0.mk hi109_2; have HC109_2 := Aside0.mk hl109_2; clear hi109_2 hl109_2; replace p109 := eq_true p109; replace q109 := eq_true q109; have ea_ := Option.some.inj (hx104_2.symm.trans hx109_2); injection ea_ with ea_ en_ ec_; subst ea_; subst ec_; clear en_; have p110 : 0 ≤ (x5_1 : Int) := of_decide_eq_true (by first | (with_reducible assumption) | assumption); have q110 : x5_1 < (l1.length : Int) := of_decide_eq_true (by first | (with_reducible assumption) | assumption); obtain ⟨ad110, A110_2, c110_2, e110, hx110_0, hx110_1, hx110_2, hl110_2, hi110_2⟩ := at_T25 HR1.out x5_1 p110 q110; obtain rfl : ad105 = ad110 := (by injection e110); have HR110_2 := Aside0.mk hi110_2; have HC110_2 := Aside0.mk hl110_2; clear hi110_2 hl110_2; replace p110 := eq_true p110; replace q110 := eq_true q110; have ea_ := Option.some.inj (hx105_2.symm.trans hx110_2); injection ea_ with ea_ en_ ec_; subst ea_; subst ec_; clear en_)); try go_wp2_with (first | (go_at_call 15; (with_reducible refine (quartermasterref18_Lines.calls k1 _ _ ((rd_T25 l0 x5_1).f2) _ _ ((rd_T25 l1 x5_1).f2) true _ ?side1 ?side2 ?side3 ?side4 A7.out).mono ?_); (case side1 => repeat (first | exact HR104_2.out | (with_reducible refine Kd.C_alloc ?_ _) | (with_reducible refine Kd.C_drewN ?_ _) | (with_reducible refine Kd.C_drew ?_))); (case side2 => exact HC104_2.out); (case side3 => repeat (first | exact HR105_2.out | (with_reducible refine Kd.C_alloc ?_ _) | (with_reducible refine Kd.C_drewN ?_ _) | (with_reducible refine Kd.C_drew ?_))); (case side4 => exact HC105_2.out); rintro e w' ⟨rfl, ⟨nd, rfl⟩⟩; (try first | exact ⟨rfl, _, World.drewN_drewN _ _ _⟩ | exact ⟨rfl, _, Eq.trans (World.drewN_drewN _ _ _) (congrArg (World.drewN _) (Nat.add_assoc _ _ _))⟩); have p107 : 0 ≤ (x5_1 : Int) := of_decide_eq_true (by first | (with_reducible assumption) | assumption); have q107 : x5_1 < (l0.length : Int) := of_decide_eq_true (by first | (with_reducible assumption) | assumption); obtain ⟨ad107, A107_2, c107_2, e107, hx107_0, hx107_1, hx107_2, hl107_2, hi107_2⟩ := at_T25 HR0.out x5_1 p107 q107; obtain rfl : ad104 = ad107 := (by injection e107); have HR107_2 := Aside0.mk hi107_2; have HC107_2 := Aside0.mk hl107_2; clear hi107_2 hl107_2; replace p107 := eq_true p107; replace q107 := eq_true q107; have ea_ := Option.some.inj (hx104_2.symm.trans hx107_2); injection ea_ with ea_ en_ ec_; subst ea_; subst ec_; clear en_; have p108 : 0 ≤ (x5_1 : Int) := of_decide_eq_true (by first | (with_reducible assumption) | assumption); have q108 : x5_1 < (l1.length : Int) := of_decide_eq_true (by first | (with_reducible assumption) | assumption); obtain ⟨ad108, A108_2, c108_2, e108, hx108_0, hx108_1, hx108_2, hl108_2, hi108_2⟩ := at_T25 HR1.out x5_1 p108 q108; obtain rfl : ad105 = ad108 := (by injection e108); have HR108_2 := Aside0.mk hi108_2; have HC108_2 := Aside0.mk hl108_2; clear hi108_2 hl108_2; replace p108 := eq_true p108; replace q108 := eq_true q108; have ea_ := Option.some.inj (hx105_2.symm.trans hx108_2); injection ea_ with ea_ en_ ec_; subst ea_; subst ec_; clear en_; have p109 : 0 ≤ (x5_1 : Int) := of_decide_eq_true (by first | (with_reducible assumption) | assumption); have q109 : x5_1 < (l0.length : Int) := of_decide_eq_true (by first | (with_reducible assumption) | assumption); obtain ⟨ad109, A109_2, c109_2, e109, hx109_0, hx109_1, hx109_2, hl109_2, hi109_2⟩ := at_T25 HR0.out x5_1 p109 q109; obtain rfl : ad104 = ad109 := (by injection e109); have HR109_2 := Aside0.mk hi109_2; have HC109_2 := Aside0.mk hl109_2; clear hi109_2 hl109_2; replace p109 := eq_true p109; replace q109 := eq_true q109; have ea_ := Option.some.inj (hx104_2.symm.trans hx109_2); injection ea_ with ea_ en_ ec_; subst ea_; subst ec_; clear en_; have p110 : 0 ≤ (x5_1 : Int) := of_decide_eq_true (by first | (with_reducible assumption) | assumption); have q110 : x5_1 < (l1.length : Int) := of_decide_eq_true (by first | (with_reducible assumption) | assumption); obtain ⟨ad110, A110_2, c110_2, e110, hx110_0, hx110_1, hx110_2, hl110_2, hi110_2⟩ := at_T25 HR1.out x5_1 p110 q110; obtain rfl : ad105 = ad110 := (by injection e110); have HR110_2 := Aside0.mk hi110_2; have HC110_2 := Aside0.mk hl110_2; clear hi110_2 hl110_2; replace p110 := eq_true p110; replace q110 := eq_true q110; have ea_ := Option.some.inj (hx105_2.symm.trans hx110_2); injection ea_ with ea_ en_ ec_; subst ea_; subst ec_; clear en_)))
    go_ret
    exact ⟨by first | rfl | (simp; done) | (simp [*]; done), by repeat (first | exact Drawn0.refl _ | apply Drawn0.step)⟩
   rw [if_pos c10] at H
   have c10b0 : (((rd_T25 l0 x5_1).f1) == ((rd_T25 l1 x5_1).f1)) = true := beq_iff_eq.mpr c10
   have c10b1 : (((rd_T25 l0 x5_1).f1) != ((rd_T25 l1 x5_1).f1)) = false := bne_eq_false_iff_eq.mpr c10
   clear c10
   have H' := Aside0.mk H
   clear H
   have p104 : 0 ≤ (x5_1 : Int) := of_decide_eq_true (by first | (with_reducible assumption) | assumption)
   have q104 : x5_1 < (l0.length : Int) := of_decide_eq_true (by first | (with_reducible assumption) | assumption)
   obtain ⟨ad104, A104_2, c104_2, e104, hx104_0, hx104_1, hx104_2, hl104_2, hi104_2⟩ := at_T25 HR0.out x5_1 p104 q104
   cases e104
   have HR104_2 := Aside0.mk hi104_2
   have HC104_2 := Aside0.mk hl104_2
   clear hi104_2 hl104_2
   replace p104 := eq_true p104
   replace q104 := eq_true q104
   have p105 : 0 ≤ (x5_1 : Int) := of_decide_eq_true (by first | (with_reducible assumption) | assumption)
   have q105 : x5_1 < (l1.length : Int) := of_decide_eq_true (by first | (with_reducible assumption) | assumption)
   obtain ⟨ad105, A105_2, c105_2, e105, hx105_0, hx105_1, hx105_2, hl105_2, hi105_2⟩ := at_T25 HR1.out x5_1 p105 q105
   cases e105
   have HR105_2 := Aside0.mk hi105_2
   have HC105_2 := Aside0.mk hl105_2
   clear hi105_2 hl105_2
   replace p105 := eq_true p105
   replace q105 := eq_true q105
   go_wp2_with (first | (go_at_call 15; (with_reducible refine (quartermasterref18_Lines.calls k1 _ _ ((rd_T25 l0 x5_1).f2) _ _ ((rd_T25 l1 x5_1).f2) true _ ?side1 ?side2 ?side3 ?side4 A7.out).mono ?_); (case side1 => repeat (first | exact HR104_2.out | (with_reducible refine Kd.C_alloc ?_ _) | (with_reducible refine Kd.C_drewN ?_ _) | (with_reducible refine Kd.C_drew ?_))); (case side2 => exact HC104_2.out); (case side3 => repeat (first | exact HR105_2.out | (with_reducible refine Kd.C_alloc ?_ _) | (with_reducible refine Kd.C_drewN ?_ _) | (with_reducible refine Kd.C_drew ?_))); (case side4 => exact HC105_2.out); rintro e w' ⟨rfl, ⟨nd, rfl⟩⟩; (try first | exact ⟨rfl, _, World.drewN_drewN _ _ _⟩ | exact ⟨rfl, _, Eq.trans (World.drewN_drewN _ _ _) (congrArg (World.drewN _) (Nat.add_assoc _ _ _))⟩); have p107 : 0 ≤ (x5_1 : Int) := of_decide_eq_true (by first | (with_reducible assumption) | assumption); have q107 : x5_1 < (l0.length : Int) := of_decide_eq_true (by first | (with_reducible assumption) | assumption); obtain ⟨ad107, A107_2, c107_2, e107, hx107_0, hx107_1, hx107_2, hl107_2, hi107_2⟩ := at_T25 HR0.out x5_1 p107 q107; obtain rfl : ad104 = ad107 := (by injection e107); have HR107_2 := Aside0.mk hi107_2; have HC107_2 := Aside0.mk hl107_2; clear hi107_2 hl107_2; replace p107 := eq_true p107; replace q107 := eq_true q107; have ea_ := Option.some.inj (hx104_2.symm.trans hx107_2); injection ea_ with ea_ en_ ec_; subst ea_; subst ec_; clear en_; have p108 : 0 ≤ (x5_1 : Int) := of_decide_eq_true (by first | (with_reducible assumption) | assumption); have q108 : x5_1 < (l1.length : Int) := of_decide_eq_true (by first | (with_reducible assumption) | assumption); obtain ⟨ad108, A108_2, c108_2, e108, hx108_0, hx108_1, hx108_2, hl108_2, hi108_2⟩ := at_T25 HR1.out x5_1 p108 q108; obtain rfl : ad105 = ad108 := (by injection e108); have HR108_2 := Aside0.mk hi108_2; have HC108_2 := Aside0.mk hl108_2; clear hi108_2 hl108_2; replace p108 := eq_true p108; replace q108 := eq_true q108; have ea_ := Option.some.inj (hx105_2.symm.trans hx108_2); injection ea_ with ea_ en_ ec_; subst ea_; subst ec_; clear en_; have p109 : 0 ≤ (x5_1 : Int) := of_decide_eq_true (by first | (with_reducible assumption) | assumption); have q109 : x5_1 < (l0.length : Int) := of_decide_eq_true (by first | (with_reducible assumption) | assumption); obtain ⟨ad109, A109_2, c109_2, e109, hx109_0, hx109_1, hx109_2, hl109_2, hi109_2⟩ := at_T25 HR0.out x5_1 p109 q109; obtain rfl : ad104 = ad109 := (by injection e109); have HR109_2 := Aside0.mk hi109_2; have HC109_2 := Aside0.mk hl109_2; clear hi109_2 hl109_2; replace p109 := eq_true p109; replace q109 := eq_true q109; have ea_ := Option.some.inj (hx104_2.symm.trans hx109_2); injection ea_ with ea_ en_ ec_; subst ea_; subst ec_; clear en_; have p110 : 0 ≤ (x5_1 : Int) := of_decide_eq_true (by first | (with_reducible assumption) | assumption); have q110 : x5_1 < (l1.length : Int) := of_decide_eq_true (by first | (with_reducible assumption) | assumption); obtain ⟨ad110, A110_2, c110_2, e110, hx110_0, hx110_1, hx110_2, hl110_2, hi110_2⟩ := at_T25 HR1.out x5_1 p110 q110; obtain rfl : ad105 = ad110 := (by injection e110); have HR110_2 := Aside0.mk hi110_2; have HC110_2 := Aside0.mk hl110_2; clear hi110_2 hl110_2; replace p110 := eq_true p110; replace q110 := eq_true q110; have ea_ := Option.some.inj (hx105_2.symm.trans hx110_2); injection ea_ with ea_ en_ ec_; subst ea_; subst ec_; clear en_))
   repeat (go_quiet (first | (go_at_call 15; (with_reducible refine (quartermasterref18_Lines.calls k1 _ _ ((rd_T25 l0 x5_1).f2) _ _ ((rd_T25 l1 x5_1).f2) true _ ?side1 ?side2 ?side3 ?side4 A7.out).mono ?_); (case side1 => repeat (first | exact HR104_2.out | (with_reducible refine Kd.C_alloc ?_ _) | (with_reducible refine Kd.C_drewN ?_ _) | (with_reducible refine Kd.C_drew ?_))); (case side2 => exact HC104_2.out); (case side3 => repeat (first | exact HR105_2.out | (with_reducible refine Kd.C_alloc ?_ _) | (with_reducible refine Kd.C_drewN ?_ _) | (with_reducible refine Kd.C_drew ?_))); (case side4 => exact HC105_2.out); rintro e w' ⟨rfl, ⟨nd, rfl⟩⟩; (try first | exact ⟨rfl, _, World.drewN_drewN _ _ _⟩ | exact ⟨rfl, _, Eq.trans (World.drewN_drewN _ _ _) (congrArg (World.drewN _) (Nat.add_assoc _ _ _))⟩); have p107 : 0 ≤ (x5_1 : Int) := of_decide_eq_true (by first | (with_reducible assumption) | assumption); have q107 : x5_1 < (l0.length : Int) := of_decide_eq_true (by first | (with_reducible assumption) | assumption); obtain ⟨ad107, A107_2, c107_2, e107, hx107_0, hx107_1, hx107_2, hl107_2, hi107_2⟩ := at_T25 HR0.out x5_1 p107 q107; obtain rfl : ad104 = ad107 := (by injection e107); have HR107_2 := Aside0.mk hi107_2; have HC107_2 := Aside0.mk hl107_2; clear hi107_2 hl107_2; replace p107 := eq_true p107; replace q107 := eq_true q107; have ea_ := Option.some.inj (hx104_2.symm.trans hx107_2); injection ea_ with ea_ en_ ec_; subst ea_; subst ec_; clear en_; have p108 : 0 ≤ (x5_1 : Int) := of_decide_eq_true (by first | (with_reducible assumption) | assumption); have q108 : x5_1 < (l1.length : Int) := of_decide_eq_true (by first | (with_reducible assumption) | assumption); obtain ⟨ad108, A108_2, c108_2, e108, hx108_0, hx108_1, hx108_2, hl108_2, hi108_2⟩ := at_T25 HR1.out x5_1 p108 q108; obtain rfl : ad105 = ad108 := (by injection e108); have HR108_2 := Aside0.mk hi108_2; have HC108_2 := Aside0.mk hl108_2; clear hi108_2 hl108_2; replace p108 := eq_true p108; replace q108 := eq_true q108; have ea_ := Option.some.inj (hx105_2.symm.trans hx108_2); injection ea_ with ea_ en_ ec_; subst ea_; subst ec_; clear en_; have p109 : 0 ≤ (x5_1 : Int) := of_decide_eq_true (by first | (with_reducible assumption) | assumption); have q109 : x5_1 < (l0.length : Int) := of_decide_eq_true (by first | (with_reducible assumption) | assumption); obtain ⟨ad109, A109_2, c109_2, e109, hx109_0, hx109_1, hx109_2, hl109_2, hi109_2⟩ := at_T25 HR0.out x5_1 p109 q109; obtain rfl : ad104 = ad109 := (by injection e109); have HR109_2 := Aside0.mk hi109_2; have HC109_2 := Aside0.mk hl109_2; clear hi109_2 hl109_2; replace p109 := eq_true p109; replace q109 := eq_true q109; have ea_ := Option.some.inj (hx104_2.symm.trans hx109_2); injection ea_ with ea_ en_ ec_; subst ea_; subst ec_; clear en_; have p110 : 0 ≤ (x5_1 : Int) := of_decide_eq_true (by first | (with_reducible assumption) | assumption); have q110 : x5_1 < (l1.length : Int) := of_decide_eq_true (by first | (with_reducible assumption) | assumption); obtain ⟨ad110, A110_2, c110_2, e110, hx110_0, hx110_1, hx110_2, hl110_2, hi110_2⟩ := at_T25 HR1.out x5_1 p110 q110; obtain rfl : ad105 = ad110 := (by injection e110); have HR110_2 := Aside0.mk hi110_2; have HC110_2 := Aside0.mk hl110_2; clear hi110_2 hl110_2; replace p110 := eq_true p110; replace q110 := eq_true q110; have ea_ := Option.some.inj (hx105_2.symm.trans hx110_2); injection ea_ with ea_ en_ ec_; subst ea_; subst ec_; clear en_)); try go_wp2_with (first | (go_at_call 15; (with_reducible refine (quartermasterref18_Lines.calls k1 _ _ ((rd_T25 l0 x5_1).f2) _ _ ((rd_T25 l1 x5_1).f2) true _ ?side1 ?side2 ?side3 ?side4 A7.out).mono ?_); (case side1 => repeat (first | exact HR104_2.out | (with_reducible refine Kd.C_alloc ?_ _) | (with_reducible refine Kd.C_drewN ?_ _) | (with_reducible refine Kd.C_drew ?_))); (case side2 => exact HC104_2.out); (case side3 => repeat (first | exact HR105_2.out | (with_reducible refine Kd.C_alloc ?_ _) | (with_reducible refine Kd.C_drewN ?_ _) | (with_reducible refine Kd.C_drew ?_))); (case side4 => exact HC105_2.out); rintro e w' ⟨rfl, ⟨nd, rfl⟩⟩; (try first | exact ⟨rfl, _, World.drewN_drewN _ _ _⟩ | exact ⟨rfl, _, Eq.trans (World.drewN_drewN _ _ _) (congrArg (World.drewN _) (Nat.add_assoc _ _ _))⟩); have p107 : 0 ≤ (x5_1 : Int) := of_decide_eq_true (by first | (with_reducible assumption) | assumption); have q107 : x5_1 < (l0.length : Int) := of_decide_eq_true (by first | (with_reducible assumption) | assumption); obtain ⟨ad107, A107_2, c107_2, e107, hx107_0, hx107_1, hx107_2, hl107_2, hi107_2⟩ := at_T25 HR0.out x5_1 p107 q107; obtain rfl : ad104 = ad107 := (by injection e107); have HR107_2 := Aside0.mk hi107_2; have HC107_2 := Aside0.mk hl107_2; clear hi107_2 hl107_2; replace p107 := eq_true p107; replace q107 := eq_true q107; have ea_ := Option.some.inj (hx104_2.symm.trans hx107_2); injection ea_ with ea_ en_ ec_; subst ea_; subst ec_; clear en_; have p108 : 0 ≤ (x5_1 : Int) := of_decide_eq_true (by first | (with_reducible assumption) | assumption); have q108 : x5_1 < (l1.length : Int) := of_decide_eq_true (by first | (with_reducible assumption) | assumption); obtain ⟨ad108, A108_2, c108_2, e108, hx108_0, hx108_1, hx108_2, hl108_2, hi108_2⟩ := at_T25 HR1.out x5_1 p108 q108; obtain rfl : ad105 = ad108 := (by injection e108); have HR108_2 := Aside0.mk hi108_2; have HC108_2 := Aside0.mk hl108_2; clear hi108_2 hl108_2; replace p108 := eq_true p108; replace q108 := eq_true q108; have ea_ := Option.some.inj (hx105_2.symm.trans hx108_2); injection ea_ with ea_ en_ ec_; subst ea_; subst ec_; clear en_; have p109 : 0 ≤ (x5_1 : Int) := of_decide_eq_true (by first | (with_reducible assumption) | assumption); have q109 : x5_1 < (l0.length : Int) := of_decide_eq_true (by first | (with_reducible assumption) | assumption); obtain ⟨ad109, A109_2, c109_2, e109, hx109_0, hx109_1, hx109_2, hl109_2, hi109_2⟩ := at_T25 HR0.out x5_1 p109 q109; obtain rfl : ad104 = ad109 := (by injection e109); have HR109_2 := Aside0.mk hi109_2; have HC109_2 := Aside0.mk hl109_2; clear hi109_2 hl109_2; replace p109 := eq_true p109; replace q109 := eq_true q109; have ea_ := Option.some.inj (hx104_2.symm.trans hx109_2); injection ea_ with ea_ en_ ec_; subst ea_; subst ec_; clear en_; have p110 : 0 ≤ (x5_1 : Int) := of_decide_eq_true (by first | (with_reducible assumption) | assumption); have q110 : x5_1 < (l1.length : Int) := of_decide_eq_true (by first | (with_reducible assumption) | assumption); obtain ⟨ad110, A110_2, c110_2, e110, hx110_0, hx110_1, hx110_2, hl110_2, hi110_2⟩ := at_T25 HR1.out x5_1 p110 q110; obtain rfl : ad105 = ad110 := (by injection e110); have HR110_2 := Aside0.mk hi110_2; have HC110_2 := Aside0.mk hl110_2; clear hi110_2 hl110_2; replace p110 := eq_true p110; replace q110 := eq_true q110; have ea_ := Option.some.inj (hx105_2.symm.trans hx110_2); injection ea_ with ea_ en_ ec_; subst ea_; subst ec_; clear en_)))
   go_roundg k1
   case measure => have := HK1.out; omega
   case rel => exact ⟨(wrap64 (x5_1 + 1)), (by first | rfl | (simp; done) | (simp [*]; done)), H', ⟨by have := HK1.out; omega⟩, by repeat (first | exact Drawn0.refl _ | apply Drawn0.step)⟩
end Go.Proofs.Ytjhdjkanepdgiaa.Pa
 