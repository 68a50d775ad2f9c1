/- Plain functions, and the walks that show that the Go functions come to them: written by this session's program wip/myprint.py, which runs the kit's print over the translation. No conditions beside those that each contract states. -/
import Derived.Test.YtjhdjkanepdgiaaPk0
import Derived.Test.YtjhdjkanepdgiaaPk2
import Derived.Test.YtjhdjkanepdgiaaBookExt
import Derived.Test.YtjhdjkanepdgiaaBookExt2
import Derived.Test.YtjhdjkanepdgiaaBookExt3
import Derived.Test.YtjhdjkanepdgiaaPa0
import Derived.Test.YtjhdjkanepdgiaaPa1
import Derived.Test.YtjhdjkanepdgiaaPa2
import Derived.Test.YtjhdjkanepdgiaaPa4
import Derived.Test.YtjhdjkanepdgiaaPb0
import Derived.Test.YtjhdjkanepdgiaaPb1
import Derived.Test.YtjhdjkanepdgiaaPb2
import Derived.Test.YtjhdjkanepdgiaaPb3
import Derived.Test.YtjhdjkanepdgiaaPaq
import Derived.Test.YtjhdjkanepdgiaaPax
import Derived.Test.YtjhdjkanepdgiaaWx
namespace Go.Proofs.Ytjhdjkanepdgiaa.Pk
open Go.Proofs.Ytjhdjkanepdgiaa.Pa Go.Proofs.Ytjhdjkanepdgiaa.Ext
open Go.RowKit Go.Proofs.YtjhdjkanepdgiaaW.PrintWords Go.Proofs.YtjhdjkanepdgiaaW.PrintLast Go.Proofs.YtjhdjkanepdgiaaW.PrintMore
attribute [local go_sem] max2_int min2_int max_two min_two max_three min_three max_four min_four   -- for this text's walks alone
set_option linter.unusedVariables false
set_option linter.unusedSimpArgs false

abbrev tt : Bool := true
abbrev ff : Bool := false
theorem sA {α : Type} {l : List α} {i : Nat} {a : α} : l.toArray.setIfInBounds i a = (l.set i a).toArray := List.setIfInBounds_toArray _ _ _
theorem sB {α : Type} {x y : α} {l : List α} : (x :: l).set 0 y = y :: l := List.set_cons_zero
theorem sC {α : Type} {x y : α} {l : List α} {n : Nat} : (x :: l).set (n + 1) y = x :: l.set n y := List.set_cons_succ
/-! ### lawAll: function 4 -/
mutual
def lawAll.j0 : Nat → List (S43) → Bool → Bool → Int → Int → List (S33) → Option (Bool)
  | 0, _, _, _, _, _, _ => none
  | k + 1, x1, x5, x32, x132000, x132001, x132002 => (if x32 = true then (some x5) else ((Pb.book_Open.f k ([] : List (S25)) x132000 x132001 x132002).bind fun bt133 => (if bt133.2 = 0 then (lawAll.l0 k x1 bt133.1 0 x132000 x132001 x132002 0 0 0 0) else (if bt133.2 = 1 then (some ((bt133.1.length : Int) == 0)) else (none)))))
def lawAll.l0 : Nat → List (S43) → List (S25) → Int → Int → Int → List (S33) → Int → Int → Int → Int → Option (Bool)
  | 0, _, _, _, _, _, _, _, _, _, _ => none
  | k + 1, x1, x6, x9, x132000, x132001, x132002, x138000, x138001, x138002, x138003 => (if x9 < (x1.length : Int) then (if 0 ≤ x9 then ((book_Ship.f x6 x132000 ((rd_T43 x1 x9).f0) ((rd_T43 x1 x9).f1)).bind fun bt140 => (if bt140.2.2.2.2 = 0 then (if ((rd_T43 x1 x9).f0) < 0 then (none) else (if ((rd_T43 x1 x9).f0) ≥ (x132002.length : Int) then (none) else (if ((rd_T43 x1 x9).f0) > 3 then (none) else (if 0 ≤ ((rd_T43 x1 x9).f0) then (if ((rd_T43 x1 x9).f0) < (x132002.length : Int) then (if bt140.2.1 = ((rd_T33 x132002 ((rd_T43 x1 x9).f0)).f0) then (if bt140.2.2.2.1 = ((rd_T43 x1 x9).f1) then (if ((rd_T43 x1 x9).f0) = 0 then (lawAll.l0 k x1 bt140.1 (wrap64 (x9 + 1)) x132000 x132001 x132002 (wrap64 (x138000 + bt140.2.2.2.1)) x138001 x138002 x138003) else (if ((rd_T43 x1 x9).f0) = 1 then (lawAll.l0 k x1 bt140.1 (wrap64 (x9 + 1)) x132000 x132001 x132002 x138000 (wrap64 (x138001 + bt140.2.2.2.1)) x138002 x138003) else (if ((rd_T43 x1 x9).f0) = 2 then (lawAll.l0 k x1 bt140.1 (wrap64 (x9 + 1)) x132000 x132001 x132002 x138000 x138001 (wrap64 (x138002 + bt140.2.2.2.1)) x138003) else (if ((rd_T43 x1 x9).f0) = 3 then (lawAll.l0 k x1 bt140.1 (wrap64 (x9 + 1)) x132000 x132001 x132002 x138000 x138001 x138002 (wrap64 (x138003 + bt140.2.2.2.1))) else (none))))) else (none)) else (none)) else (none)) else (none))))) else (lawAll.l0 k x1 x6 (wrap64 (x9 + 1)) x132000 x132001 x132002 x138000 x138001 x138002 x138003))) else (none)) else ((book_Close.f x6 x132000).bind fun bt156 => (lawAll.l1 k x6 bt156.2.1 bt156.2.2 ([] : List (S33)) 0 x132000 x132001 x132002 x138000 x138001 x138002 x138003)))
def lawAll.l1 : Nat → List (S25) → List (S33) → Int → List (S33) → Int → Int → Int → List (S33) → Int → Int → Int → Int → Option (Bool)
  | 0, _, _, _, _, _, _, _, _, _, _, _, _ => none
  | k + 1, x6, x14, x15, x16, x17, x132000, x132001, x132002, x138000, x138001, x138002, x138003 => (if x17 < (x132002.length : Int) then (lawAll.j3 k x6 x14 x15 x16 x17 (decide (x17 < 4)) x132000 x132001 x132002 x138000 x138001 x138002 x138003) else (lawAll.j3 k x6 x14 x15 x16 x17 false x132000 x132001 x132002 x138000 x138001 x138002 x138003))
def lawAll.j3 : Nat → List (S25) → List (S33) → Int → List (S33) → Int → Bool → Int → Int → List (S33) → Int → Int → Int → Int → Option (Bool)
  | 0, _, _, _, _, _, _, _, _, _, _, _, _, _ => none
  | k + 1, x6, x14, x15, x16, x17, x157, x132000, x132001, x132002, x138000, x138001, x138002, x138003 => (if x157 = true then (if 0 ≤ x17 then (if x17 < (x132002.length : Int) then (if x17 = 0 then (if (wrap64 (((rd_T33 x132002 x17).f2) - x138000)) < 0 then (none) else (if (wrap64 (((rd_T33 x132002 x17).f2) - x138000)) > 0 then (if x16.length < 5864062014805 then (lawAll.l1 k x6 x14 x15 (x16 ++ [(⟨(rd_T33 x132002 x17).f0, (rd_T33 x132002 x17).f1, wrap64 (((rd_T33 x132002 x17).f2) - x138000)⟩ : S33)]) (wrap64 (x17 + 1)) x132000 x132001 x132002 x138000 x138001 x138002 x138003) else (none)) else (lawAll.l1 k x6 x14 x15 x16 (wrap64 (x17 + 1)) x132000 x132001 x132002 x138000 x138001 x138002 x138003))) else (if x17 = 1 then (if (wrap64 (((rd_T33 x132002 x17).f2) - x138001)) < 0 then (none) else (if (wrap64 (((rd_T33 x132002 x17).f2) - x138001)) > 0 then (if x16.length < 5864062014805 then (lawAll.l1 k x6 x14 x15 (x16 ++ [(⟨(rd_T33 x132002 x17).f0, (rd_T33 x132002 x17).f1, wrap64 (((rd_T33 x132002 x17).f2) - x138001)⟩ : S33)]) (wrap64 (x17 + 1)) x132000 x132001 x132002 x138000 x138001 x138002 x138003) else (none)) else (lawAll.l1 k x6 x14 x15 x16 (wrap64 (x17 + 1)) x132000 x132001 x132002 x138000 x138001 x138002 x138003))) else (if x17 = 2 then (if (wrap64 (((rd_T33 x132002 x17).f2) - x138002)) < 0 then (none) else (if (wrap64 (((rd_T33 x132002 x17).f2) - x138002)) > 0 then (if x16.length < 5864062014805 then (lawAll.l1 k x6 x14 x15 (x16 ++ [(⟨(rd_T33 x132002 x17).f0, (rd_T33 x132002 x17).f1, wrap64 (((rd_T33 x132002 x17).f2) - x138002)⟩ : S33)]) (wrap64 (x17 + 1)) x132000 x132001 x132002 x138000 x138001 x138002 x138003) else (none)) else (lawAll.l1 k x6 x14 x15 x16 (wrap64 (x17 + 1)) x132000 x132001 x132002 x138000 x138001 x138002 x138003))) else (if x17 = 3 then (if (wrap64 (((rd_T33 x132002 x17).f2) - x138003)) < 0 then (none) else (if (wrap64 (((rd_T33 x132002 x17).f2) - x138003)) > 0 then (if x16.length < 5864062014805 then (lawAll.l1 k x6 x14 x15 (x16 ++ [(⟨(rd_T33 x132002 x17).f0, (rd_T33 x132002 x17).f1, wrap64 (((rd_T33 x132002 x17).f2) - x138003)⟩ : S33)]) (wrap64 (x17 + 1)) x132000 x132001 x132002 x138000 x138001 x138002 x138003) else (none)) else (lawAll.l1 k x6 x14 x15 x16 (wrap64 (x17 + 1)) x132000 x132001 x132002 x138000 x138001 x138002 x138003))) else (none))))) else (none)) else (none)) else (if (x16.length : Int) = 0 then (if x15 = 3 then (if (x6.length : Int) = 0 then (some ((x14.length : Int) == 0)) else (none)) else (none)) else (if x15 = 0 then ((Pa.quartermasterref18_Lines.f k x14 x16).bind fun t163 => (some t163)) else (none))))
end
def lawAll.f (k : Nat) (a0_0 : Int) (a0_1 : Int) (l0_2 : List (S33)) (l1 : List (S43)) : Option (Bool) := ((quartermasterlaw18_awake.f k).bind fun t132 => (if t132 = true then (if (l0_2.length : Int) > 20 then (lawAll.j0 k l1 t132 true a0_0 a0_1 l0_2) else (lawAll.j0 k l1 t132 (decide ((l1.length : Int) > 40)) a0_0 a0_1 l0_2)) else (lawAll.j0 k l1 t132 true a0_0 a0_1 l0_2)))
theorem lawAll.mono_l : ∀ k, (∀ y0 y1 y2 y3 y4 y5, LeO (lawAll.j0 k y0 y1 y2 y3 y4 y5) (lawAll.j0 (k + 1) y0 y1 y2 y3 y4 y5)) ∧ (∀ y0 y1 y2 y3 y4 y5 y6 y7 y8 y9, LeO (lawAll.l0 k y0 y1 y2 y3 y4 y5 y6 y7 y8 y9) (lawAll.l0 (k + 1) y0 y1 y2 y3 y4 y5 y6 y7 y8 y9)) ∧ (∀ y0 y1 y2 y3 y4 y5 y6 y7 y8 y9 y10 y11, LeO (lawAll.l1 k y0 y1 y2 y3 y4 y5 y6 y7 y8 y9 y10 y11) (lawAll.l1 (k + 1) y0 y1 y2 y3 y4 y5 y6 y7 y8 y9 y10 y11)) ∧ (∀ y0 y1 y2 y3 y4 y5 y6 y7 y8 y9 y10 y11 y12, LeO (lawAll.j3 k y0 y1 y2 y3 y4 y5 y6 y7 y8 y9 y10 y11 y12) (lawAll.j3 (k + 1) y0 y1 y2 y3 y4 y5 y6 y7 y8 y9 y10 y11 y12))
  | 0 => ⟨fun _ _ _ _ _ _ r h => by simp [lawAll.j0] at h, fun _ _ _ _ _ _ _ _ _ _ r h => by simp [lawAll.l0] at h, fun _ _ _ _ _ _ _ _ _ _ _ _ r h => by simp [lawAll.l1] at h, fun _ _ _ _ _ _ _ _ _ _ _ _ _ r h => by simp [lawAll.j3] at h⟩
  | k + 1 => by
    obtain ⟨ih0, ih1, ih2, ih3⟩ := lawAll.mono_l k
    refine ⟨?_, ?_, ?_, ?_⟩
    · intro y0 y1 y2 y3 y4 y5
      unfold lawAll.j0
      repeat' first
      | (with_reducible exact ih0 _ _ _ _ _ _)
      | (with_reducible exact ih1 _ _ _ _ _ _ _ _ _ _)
      | (with_reducible exact ih2 _ _ _ _ _ _ _ _ _ _ _ _)
      | (with_reducible exact ih3 _ _ _ _ _ _ _ _ _ _ _ _ _)
      | (with_reducible exact Pa.quartermasterref18_Lines.mono _ _ _)
      | (with_reducible exact Pb.book_Open.mono _ _ _ _ _)
      | (with_reducible exact quartermasterlaw18_awake.mono _)
      | (with_reducible exact LeO.refl _)
      | (with_reducible exact LeO.none _)
      | (with_reducible refine LeO.ite ?_ ?_)
      | (with_reducible refine LeO.bind ?_ (fun _ => ?_))
      | exact ih0 _ _ _ _ _ _
      | exact ih1 _ _ _ _ _ _ _ _ _ _
      | exact ih2 _ _ _ _ _ _ _ _ _ _ _ _
      | exact ih3 _ _ _ _ _ _ _ _ _ _ _ _ _
      | exact Pa.quartermasterref18_Lines.mono _ _ _
      | exact Pb.book_Open.mono _ _ _ _ _
      | exact quartermasterlaw18_awake.mono _
      | exact LeO.none _
      | refine LeO.ite ?_ ?_
      | refine LeO.bind ?_ (fun _ => ?_)
    · intro y0 y1 y2 y3 y4 y5 y6 y7 y8 y9
      unfold lawAll.l0
      repeat' first
      | (with_reducible exact ih0 _ _ _ _ _ _)
      | (with_reducible exact ih1 _ _ _ _ _ _ _ _ _ _)
      | (with_reducible exact ih2 _ _ _ _ _ _ _ _ _ _ _ _)
      | (with_reducible exact ih3 _ _ _ _ _ _ _ _ _ _ _ _ _)
      | (with_reducible exact Pa.quartermasterref18_Lines.mono _ _ _)
      | (with_reducible exact Pb.book_Open.mono _ _ _ _ _)
      | (with_reducible exact quartermasterlaw18_awake.mono _)
      | (with_reducible exact LeO.refl _)
      | (with_reducible exact LeO.none _)
      | (with_reducible refine LeO.ite ?_ ?_)
      | (with_reducible refine LeO.bind ?_ (fun _ => ?_))
      | exact ih0 _ _ _ _ _ _
      | exact ih1 _ _ _ _ _ _ _ _ _ _
      | exact ih2 _ _ _ _ _ _ _ _ _ _ _ _
      | exact ih3 _ _ _ _ _ _ _ _ _ _ _ _ _
      | exact Pa.quartermasterref18_Lines.mono _ _ _
      | exact Pb.book_Open.mono _ _ _ _ _
      | exact quartermasterlaw18_awake.mono _
      | exact LeO.none _
      | refine LeO.ite ?_ ?_
      | refine LeO.bind ?_ (fun _ => ?_)
    · intro y0 y1 y2 y3 y4 y5 y6 y7 y8 y9 y10 y11
      unfold lawAll.l1
      repeat' first
      | (with_reducible exact ih0 _ _ _ _ _ _)
      | (with_reducible exact ih1 _ _ _ _ _ _ _ _ _ _)
      | (with_reducible exact ih2 _ _ _ _ _ _ _ _ _ _ _ _)
      | (with_reducible exact ih3 _ _ _ _ _ _ _ _ _ _ _ _ _)
      | (with_reducible exact Pa.quartermasterref18_Lines.mono _ _ _)
      | (with_reducible exact Pb.book_Open.mono _ _ _ _ _)
      | (with_reducible exact quartermasterlaw18_awake.mono _)
      | (with_reducible exact LeO.refl _)
      | (with_reducible exact LeO.none _)
      | (with_reducible refine LeO.ite ?_ ?_)
      | (with_reducible refine LeO.bind ?_ (fun _ => ?_))
      | exact ih0 _ _ _ _ _ _
      | exact ih1 _ _ _ _ _ _ _ _ _ _
      | exact ih2 _ _ _ _ _ _ _ _ _ _ _ _
      | exact ih3 _ _ _ _ _ _ _ _ _ _ _ _ _
      | exact Pa.quartermasterref18_Lines.mono _ _ _
      | exact Pb.book_Open.mono _ _ _ _ _
      | exact quartermasterlaw18_awake.mono _
      | exact LeO.none _
      | refine LeO.ite ?_ ?_
      | refine LeO.bind ?_ (fun _ => ?_)
    · intro y0 y1 y2 y3 y4 y5 y6 y7 y8 y9 y10 y11 y12
      unfold lawAll.j3
      repeat' first
      | (with_reducible exact ih0 _ _ _ _ _ _)
      | (with_reducible exact ih1 _ _ _ _ _ _ _ _ _ _)
      | (with_reducible exact ih2 _ _ _ _ _ _ _ _ _ _ _ _)
      | (with_reducible exact ih3 _ _ _ _ _ _ _ _ _ _ _ _ _)
      | (with_reducible exact Pa.quartermasterref18_Lines.mono _ _ _)
      | (with_reducible exact Pb.book_Open.mono _ _ _ _ _)
      | (with_reducible exact quartermasterlaw18_awake.mono _)
      | (with_reducible exact LeO.refl _)
      | (with_reducible exact LeO.none _)
      | (with_reducible refine LeO.ite ?_ ?_)
      | (with_reducible refine LeO.bind ?_ (fun _ => ?_))
      | exact ih0 _ _ _ _ _ _
      | exact ih1 _ _ _ _ _ _ _ _ _ _
      | exact ih2 _ _ _ _ _ _ _ _ _ _ _ _
      | exact ih3 _ _ _ _ _ _ _ _ _ _ _ _ _
      | exact Pa.quartermasterref18_Lines.mono _ _ _
      | exact Pb.book_Open.mono _ _ _ _ _
      | exact quartermasterlaw18_awake.mono _
      | exact LeO.none _
      | refine LeO.ite ?_ ?_
      | refine LeO.bind ?_ (fun _ => ?_)
theorem lawAll.mono : ∀ a0 a1 a2 a3 k, LeO (lawAll.f k a0 a1 a2 a3) (lawAll.f (k + 1) a0 a1 a2 a3) := by
  intro a0 a1 a2 a3 k
  obtain ⟨ih0, ih1, ih2, ih3⟩ := lawAll.mono_l k
  unfold lawAll.f
  repeat' first
      | (with_reducible exact ih0 _ _ _ _ _ _)
      | (with_reducible exact ih1 _ _ _ _ _ _ _ _ _ _)
      | (with_reducible exact ih2 _ _ _ _ _ _ _ _ _ _ _ _)
      | (with_reducible exact ih3 _ _ _ _ _ _ _ _ _ _ _ _ _)
      | (with_reducible exact Pa.quartermasterref18_Lines.mono _ _ _)
      | (with_reducible exact Pb.book_Open.mono _ _ _ _ _)
      | (with_reducible exact quartermasterlaw18_awake.mono _)
      | (with_reducible exact LeO.refl _)
      | (with_reducible exact LeO.none _)
      | (with_reducible refine LeO.ite ?_ ?_)
      | (with_reducible refine LeO.bind ?_ (fun _ => ?_))
      | exact ih0 _ _ _ _ _ _
      | exact ih1 _ _ _ _ _ _ _ _ _ _
      | exact ih2 _ _ _ _ _ _ _ _ _ _ _ _
      | exact ih3 _ _ _ _ _ _ _ _ _ _ _ _ _
      | exact Pa.quartermasterref18_Lines.mono _ _ _
      | exact Pb.book_Open.mono _ _ _ _ _
      | exact quartermasterlaw18_awake.mono _
      | exact LeO.none _
      | refine LeO.ite ?_ ?_
      | refine LeO.bind ?_ (fun _ => ?_)
def lawAll.T11 : Bool × List (List Nat × List Nat) := (true, [([], []), ([], []), ([1], [1]), ([], []), ([], []), ([3, 4], [3, 4]), ([5], [5]), ([6], [6]), ([], []), ([], []), ([8, 9], [8, 9]), ([10], [10]), ([11], [11]), ([0, 2, 7, 12], [0, 2, 7, 12]), ([13], [13]), ([14], [14]), ([14], [14]), ([14], [14]), ([], []), ([15, 13, 0, 1, 2, 3, 4, 5, 6, 7, 8, 9, 10, 11, 12, 13, 14, 15, 18], [15]), ([18, 16, 19, 0, 1, 2, 3, 4, 5, 6, 7, 8, 9, 10, 11, 12, 13, 14, 15, 16, 18, 19], [16, 18]), ([17, 20, 0, 1, 2, 3, 4, 5, 6, 7, 8, 9, 10, 11, 12, 13, 14, 15, 16, 17, 18, 19, 20], [17])])
def lawAll.B11 : List Nat := [0, 0, 2, 0, 0, 24, 56, 120, 0, 0, 768, 1792, 3840, 8191, 16383, 32767, 32767, 32767, 0, 327679, 917503, 2097151]
theorem lawAll.tab11 : rtab .any (opsOf Try.f4 11) = lawAll.T11 := by kernel_rfl
theorem lawAll.bits11 : waitsOk lawAll.T11.2 lawAll.B11 = true := by kernel_rfl
def lawAll.T13 : Bool × List (List Nat × List Nat) := (true, [([], []), ([], []), ([0, 1], [0, 1]), ([2], [2]), ([3], [3]), ([4], [4]), ([5], [5]), ([6], [6]), ([6], [6]), ([7, 8, 6], [6, 7, 8]), ([9, 6], [6, 9]), ([10, 6], [6, 10]), ([6], [6]), ([12, 6], [6, 12]), ([13, 6], [6, 13]), ([11, 14, 6], [6, 11, 14]), ([6, 15], [6, 15]), ([16, 6], [16]), ([17], [17]), ([17], [17]), ([18, 19, 17], [17, 18, 19]), ([20, 17], [17, 20]), ([21, 17], [17, 21]), ([22, 17], [17, 22]), ([17, 23], [17, 23]), ([24, 17], [24]), ([25], [25]), ([26, 25], [25, 26]), ([25], [25]), ([28, 25], [25, 28]), ([25], [25]), ([25], [25]), ([30, 31, 25], [25, 30, 31]), ([32, 25], [25, 32]), ([33, 25], [25, 33]), ([29, 34, 25], [25, 29, 34]), ([35, 25], [25, 35]), ([36, 25], [25, 36]), ([27, 37, 25], [25, 27, 37]), ([25, 38], [25, 38]), ([39, 25], [39]), ([40], [40]), ([41, 40], [40, 41]), ([40], [40]), ([40], [40]), ([43, 44, 40], [40, 43, 44]), ([45, 40], [40, 45]), ([46, 40], [40, 46]), ([42, 47, 40], [40, 42, 47]), ([40, 48], [40, 48])])
def lawAll.B13 : List Nat := [0, 0, 3, 7, 15, 31, 63, 127, 127, 511, 1023, 2047, 127, 4223, 12415, 32767, 65535, 131071, 262143, 262143, 1048575, 2097151, 4194303, 8388607, 16777215, 33554431, 67108863, 134217727, 67108863, 335544319, 67108863, 67108863, 3288334335, 7583301631, 16173236223, 34158411775, 68518150143, 137237626879, 274877906943, 549755813887, 1099511627775, 2199023255551, 4398046511103, 2199023255551, 2199023255551, 28587302322175, 63771674411007, 134140418588671, 281474976710655, 562949953421311]
theorem lawAll.tab13 : rtab .any (opsOf Try.f4 13) = lawAll.T13 := by kernel_rfl
theorem lawAll.bits13 : waitsOk lawAll.T13.2 lawAll.B13 = true := by kernel_rfl
def lawAll.T15 : Bool × List (List Nat × List Nat) := (true, [([], []), ([], []), ([0, 1], [0, 1]), ([2], [2]), ([3], [3]), ([], []), ([], []), ([5, 6], [5, 6]), ([7], [7]), ([8], [8]), ([9], [9]), ([10], [10]), ([], []), ([12], [12]), ([11, 13], [11, 13]), ([4, 0, 1, 2, 3, 4, 5, 6, 7, 8, 9, 10, 11, 12, 13, 14], [4]), ([15, 14, 0, 1, 2, 3, 4, 5, 6, 7, 8, 9, 10, 11, 12, 13, 14], [14, 15])])
def lawAll.B15 : List Nat := [0, 0, 3, 7, 15, 0, 0, 96, 224, 480, 992, 2016, 0, 4096, 16352, 32767, 65535]
theorem lawAll.tab15 : rtab .any (opsOf Try.f4 15) = lawAll.T15 := by kernel_rfl
theorem lawAll.bits15 : waitsOk lawAll.T15.2 lawAll.B15 = true := by kernel_rfl
def lawAll.T23 : Bool × List (List Nat × List Nat) := (true, [([], []), ([0], [0]), ([], []), ([2], [2]), ([3], [3]), ([1, 4], [1, 4]), ([0, 1, 2, 3, 4, 5], []), ([6, 5, 0, 1, 2, 3, 4, 5], [5, 6])])
def lawAll.B23 : List Nat := [0, 1, 0, 4, 12, 31, 63, 127]
theorem lawAll.tab23 : rtab .any (opsOf Try.f4 23) = lawAll.T23 := by kernel_rfl
theorem lawAll.bits23 : waitsOk lawAll.T23.2 lawAll.B23 = true := by kernel_rfl
/-- THE ONE PURE STATEMENT of lawAll. -/
def lawAll.Pure : Prop := ∀ (a0_0 : Int) (a0_1 : Int) (l0_2 : List (S33)) (l1 : List (S43)), ((Lit.int .i64 a0_0).wf = true) → ((Lit.int .i64 a0_1).wf = true) → (l0_2.length ≤ maxLen) → (∀ y0 ∈ l0_2, qT33 y0) → (l1.length ≤ maxLen) → (∀ y0 ∈ l1, qT43 y0) → ∃ k, lawAll.f k a0_0 a0_1 l0_2 l1 = some true
end Go.Proofs.Ytjhdjkanepdgiaa.Pk
