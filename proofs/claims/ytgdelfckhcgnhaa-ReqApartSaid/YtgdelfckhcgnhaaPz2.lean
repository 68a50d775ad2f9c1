/- Plain functions, and the walks that show that the Go functions come to them: written by this session's program wip/myprint.py, which runs the kit's print over the translation. No conditions beside those that each contract states. -/
import Derived.Test.YtgdelfckhcgnhaaPz0
import Derived.Test.YtgdelfckhcgnhaaPz1
import Derived.Test.YtgdelfckhcgnhaaReqExt
import Derived.Test.YtgdelfckhcgnhaaPa0
import Derived.Test.YtgdelfckhcgnhaaPa1
import Derived.Test.YtgdelfckhcgnhaaPa2
import Derived.Test.YtgdelfckhcgnhaaPa3
import Derived.Test.YtgdelfckhcgnhaaPa4
import Derived.Test.YtgdelfckhcgnhaaPa6
import Derived.Test.YtgdelfckhcgnhaaPaq
namespace Go.Proofs.Ytgdelfckhcgnhaa.Pz
open Go.Proofs.Ytgdelfckhcgnhaa.Pa Go.Proofs.Ytgdelfckhcgnhaa.Ext
open Go.RowKit Go.Proofs.YtgdelfckhcgnhaaW.PrintWords Go.Proofs.YtgdelfckhcgnhaaW.PrintLast Go.Proofs.YtgdelfckhcgnhaaW.PrintMore
attribute [local go_sem] max2_int min2_int max_two min_two max_three min_three max_four min_four   -- for this text's walks alone
set_option linter.unusedVariables false
set_option linter.unusedSimpArgs false
 
/-! ### quartermasterlaw21_ReqApart: function 4 -/
mutual
def quartermasterlaw21_ReqApart.j0 : Nat → Bool → Bool → Int → Int → Int → Int → Int → Int → Int → Int → Int → List (S93) → Int → Int → Int → Int → Int → Int → Int → Int → Int → List (S93) → Int → Int → Int → List (S93) → List (S76) → Int → Int → Int → List (S93) → List (S76) → Option (Bool)
 | 0, _, _, _, _, _, _, _, _, _, _, _, _, _, _, _, _, _, _, _, _, _, _, _, _, _, _, _, _, _, _, _, _ => none
 | k + 1, x9, x60, x143000, x143001, x143002, x143003, x143004, x143005, x143006, x143007, x143008, x143009, x144000, x144001, x144002, x144003, x144004, x144005, x144006, x144007, x144008, x144009, x145000, x145001, x145002, x145003, x145004, x146000, x146001, x146002, x146003, x146004 => (if x60 = true then (some x9) else ((req_Encode.f x143000 x143001 x143002 x143003 x143004 x143005 x143006 x143007 x143008 x143009).bind fun bt147 => ((req_Encode.f x144000 x144001 x144002 x144003 x144004 x144005 x144006 x144007 x144008 x144009).bind fun bt151 => (if bt147.2 = 0 then (quartermasterlaw21_ReqApart.j1 k bt147.1 bt151.1 (bt151.2 == 0) x143000 x143001 x143002 x143003 x143004 x143005 x143006 x143007 x143008 x143009 x144000 x144001 x144002 x144003 x144004 x144005 x144006 x144007 x144008 x144009 x145000 x145001 x145002 x145003 x145004 x146000 x146001 x146002 x146003 x146004) else (quartermasterlaw21_ReqApart.j1 k bt147.1 bt151.1 false x143000 x143001 x143002 x143003 x143004 x143005 x143006 x143007 x143008 x143009 x144000 x144001 x144002 x144003 x144004 x144005 x144006 x144007 x144008 x144009 x145000 x145001 x145002 x145003 x145004 x146000 x146001 x146002 x146003 x146004)))))
def quartermasterlaw21_ReqApart.j1 : Nat → List Int → List Int → Bool → Int → Int → Int → Int → Int → Int → Int → Int → Int → List (S93) → Int → Int → Int → Int → Int → Int → Int → Int → Int → List (S93) → Int → Int → Int → List (S93) → List (S76) → Int → Int → Int → List (S93) → List (S76) → Option (Bool)
 | 0, _, _, _, _, _, _, _, _, _, _, _, _, _, _, _, _, _, _, _, _, _, _, _, _, _, _, _, _, _, _, _, _, _ => none
 | k + 1, x10, x12, x77, x143000, x143001, x143002, x143003, x143004, x143005, x143006, x143007, x143008, x143009, x144000, x144001, x144002, x144003, x144004, x144005, x144006, x144007, x144008, x144009, x145000, x145001, x145002, x145003, x145004, x146000, x146001, x146002, x146003, x146004 => (if x77 = true then ((Pa.quartermasterref21_Bytes.f k x10 x12).bind fun t155 => ((Pa.quartermasterref21_Reqs.f k x143000 x143001 x143002 x143003 x143004 x143005 x143006 x143007 x143008 x143009 x144000 x144001 x144002 x144003 x144004 x144005 x144006 x144007 x144008 x144009).bind fun t156 => (if (t155 != t156) = true then (none) else (quartermasterlaw21_ReqApart.j2 k x145000 x145001 x145002 x145003 x145004 x146000 x146001 x146002 x146003 x146004)))) else (quartermasterlaw21_ReqApart.j2 k x145000 x145001 x145002 x145003 x145004 x146000 x146001 x146002 x146003 x146004))
def quartermasterlaw21_ReqApart.j2 : Nat → Int → Int → Int → List (S93) → List (S76) → Int → Int → Int → List (S93) → List (S76) → Option (Bool)
 | 0, _, _, _, _, _, _, _, _, _, _ => none
 | k + 1, x145000, x145001, x145002, x145003, x145004, x146000, x146001, x146002, x146003, x146004 => ((req_Answer.f x145000 x145001 x145002 x145003 x145004).bind fun bt157 => ((req_Answer.f x146000 x146001 x146002 x146003 x146004).bind fun bt161 => (if bt157.2 = 0 then (quartermasterlaw21_ReqApart.j3 k bt157.1 bt161.1 (bt161.2 != 0) x145000 x145001 x145002 x145003 x145004 x146000 x146001 x146002 x146003 x146004) else (quartermasterlaw21_ReqApart.j3 k bt157.1 bt161.1 true x145000 x145001 x145002 x145003 x145004 x146000 x146001 x146002 x146003 x146004))))
def quartermasterlaw21_ReqApart.j3 : Nat → List Int → List Int → Bool → Int → Int → Int → List (S93) → List (S76) → Int → Int → Int → List (S93) → List (S76) → Option (Bool)
 | 0, _, _, _, _, _, _, _, _, _, _, _, _, _ => none
 | k + 1, x16, x18, x102, x145000, x145001, x145002, x145003, x145004, x146000, x146001, x146002, x146003, x146004 => (if x102 = true then (some true) else ((Pa.quartermasterref21_Bytes.f k x16 x18).bind fun t165 => ((Pa.quartermasterref21_Replies.f k x145000 x145001 x145002 x145003 x145004 x146000 x146001 x146002 x146003 x146004).bind fun t166 => (some (t165 == t166)))))
end
def quartermasterlaw21_ReqApart.f (k : Nat) (a0_0 : Int) (a0_1 : Int) (a0_2 : Int) (a0_3 : Int) (a0_4 : Int) (a0_5 : Int) (a0_6 : Int) (a0_7 : Int) (a0_8 : Int) (l0_9 : List (S93)) (a1_0 : Int) (a1_1 : Int) (a1_2 : Int) (a1_3 : Int) (a1_4 : Int) (a1_5 : Int) (a1_6 : Int) (a1_7 : Int) (a1_8 : Int) (l1_9 : List (S93)) (a2_0 : Int) (a2_1 : Int) (a2_2 : Int) (l2_3 : List (S93)) (l2_4 : List (S76)) (a3_0 : Int) (a3_1 : Int) (a3_2 : Int) (l3_3 : List (S93)) (l3_4 : List (S76)) : Option (Bool) := ((quartermasterlaw21_awake.f k).bind fun t146 => (if t146 = true then (if (l0_9.length : Int) > 20 then (quartermasterlaw21_ReqApart.j0 k t146 true a0_0 a0_1 a0_2 a0_3 a0_4 a0_5 a0_6 a0_7 a0_8 l0_9 a1_0 a1_1 a1_2 a1_3 a1_4 a1_5 a1_6 a1_7 a1_8 l1_9 a2_0 a2_1 a2_2 l2_3 l2_4 a3_0 a3_1 a3_2 l3_3 l3_4) else (if (l1_9.length : Int) > 20 then (quartermasterlaw21_ReqApart.j0 k t146 true a0_0 a0_1 a0_2 a0_3 a0_4 a0_5 a0_6 a0_7 a0_8 l0_9 a1_0 a1_1 a1_2 a1_3 a1_4 a1_5 a1_6 a1_7 a1_8 l1_9 a2_0 a2_1 a2_2 l2_3 l2_4 a3_0 a3_1 a3_2 l3_3 l3_4) else (if (l2_3.length : Int) > 20 then (quartermasterlaw21_ReqApart.j0 k t146 true a0_0 a0_1 a0_2 a0_3 a0_4 a0_5 a0_6 a0_7 a0_8 l0_9 a1_0 a1_1 a1_2 a1_3 a1_4 a1_5 a1_6 a1_7 a1_8 l1_9 a2_0 a2_1 a2_2 l2_3 l2_4 a3_0 a3_1 a3_2 l3_3 l3_4) else (if (l2_4.length : Int) > 20 then (quartermasterlaw21_ReqApart.j0 k t146 true a0_0 a0_1 a0_2 a0_3 a0_4 a0_5 a0_6 a0_7 a0_8 l0_9 a1_0 a1_1 a1_2 a1_3 a1_4 a1_5 a1_6 a1_7 a1_8 l1_9 a2_0 a2_1 a2_2 l2_3 l2_4 a3_0 a3_1 a3_2 l3_3 l3_4) else (if (l3_3.length : Int) > 20 then (quartermasterlaw21_ReqApart.j0 k t146 true a0_0 a0_1 a0_2 a0_3 a0_4 a0_5 a0_6 a0_7 a0_8 l0_9 a1_0 a1_1 a1_2 a1_3 a1_4 a1_5 a1_6 a1_7 a1_8 l1_9 a2_0 a2_1 a2_2 l2_3 l2_4 a3_0 a3_1 a3_2 l3_3 l3_4) else (quartermasterlaw21_ReqApart.j0 k t146 (decide ((l3_4.length : Int) > 20)) a0_0 a0_1 a0_2 a0_3 a0_4 a0_5 a0_6 a0_7 a0_8 l0_9 a1_0 a1_1 a1_2 a1_3 a1_4 a1_5 a1_6 a1_7 a1_8 l1_9 a2_0 a2_1 a2_2 l2_3 l2_4 a3_0 a3_1 a3_2 l3_3 l3_4)))))) else (quartermasterlaw21_ReqApart.j0 k t146 true a0_0 a0_1 a0_2 a0_3 a0_4 a0_5 a0_6 a0_7 a0_8 l0_9 a1_0 a1_1 a1_2 a1_3 a1_4 a1_5 a1_6 a1_7 a1_8 l1_9 a2_0 a2_1 a2_2 l2_3 l2_4 a3_0 a3_1 a3_2 l3_3 l3_4)))
theorem quartermasterlaw21_ReqApart.mono_l : ∀ k, (∀ y0 y1 y2 y3 y4 y5 y6 y7 y8 y9 y10 y11 y12 y13 y14 y15 y16 y17 y18 y19 y20 y21 y22 y23 y24 y25 y26 y27 y28 y29 y30 y31, LeO (quartermasterlaw21_ReqApart.j0 k y0 y1 y2 y3 y4 y5 y6 y7 y8 y9 y10 y11 y12 y13 y14 y15 y16 y17 y18 y19 y20 y21 y22 y23 y24 y25 y26 y27 y28 y29 y30 y31) (quartermasterlaw21_ReqApart.j0 (k + 1) y0 y1 y2 y3 y4 y5 y6 y7 y8 y9 y10 y11 y12 y13 y14 y15 y16 y17 y18 y19 y20 y21 y22 y23 y24 y25 y26 y27 y28 y29 y30 y31)) ∧ (∀ y0 y1 y2 y3 y4 y5 y6 y7 y8 y9 y10 y11 y12 y13 y14 y15 y16 y17 y18 y19 y20 y21 y22 y23 y24 y25 y26 y27 y28 y29 y30 y31 y32, LeO (quartermasterlaw21_ReqApart.j1 k y0 y1 y2 y3 y4 y5 y6 y7 y8 y9 y10 y11 y12 y13 y14 y15 y16 y17 y18 y19 y20 y21 y22 y23 y24 y25 y26 y27 y28 y29 y30 y31 y32) (quartermasterlaw21_ReqApart.j1 (k + 1) y0 y1 y2 y3 y4 y5 y6 y7 y8 y9 y10 y11 y12 y13 y14 y15 y16 y17 y18 y19 y20 y21 y22 y23 y24 y25 y26 y27 y28 y29 y30 y31 y32)) ∧ (∀ y0 y1 y2 y3 y4 y5 y6 y7 y8 y9, LeO (quartermasterlaw21_ReqApart.j2 k y0 y1 y2 y3 y4 y5 y6 y7 y8 y9) (quartermasterlaw21_ReqApart.j2 (k + 1) y0 y1 y2 y3 y4 y5 y6 y7 y8 y9)) ∧ (∀ y0 y1 y2 y3 y4 y5 y6 y7 y8 y9 y10 y11 y12, LeO (quartermasterlaw21_ReqApart.j3 k y0 y1 y2 y3 y4 y5 y6 y7 y8 y9 y10 y11 y12) (quartermasterlaw21_ReqApart.j3 (k + 1) y0 y1 y2 y3 y4 y5 y6 y7 y8 y9 y10 y11 y12))
 | 0 => ⟨fun _ _ _ _ _ _ _ _ _ _ _ _ _ _ _ _ _ _ _ _ _ _ _ _ _ _ _ _ _ _ _ _ r h => by simp [quartermasterlaw21_ReqApart.j0] at h, fun _ _ _ _ _ _ _ _ _ _ _ _ _ _ _ _ _ _ _ _ _ _ _ _ _ _ _ _ _ _ _ _ _ r h => by simp [quartermasterlaw21_ReqApart.j1] at h, fun _ _ _ _ _ _ _ _ _ _ r h => by simp [quartermasterlaw21_ReqApart.j2] at h, fun _ _ _ _ _ _ _ _ _ _ _ _ _ r h => by simp [quartermasterlaw21_ReqApart.j3] at h⟩
 | k + 1 => by
  obtain ⟨ih0, ih1, ih2, ih3⟩ := quartermasterlaw21_ReqApart.mono_l k
  refine ⟨?_, ?_, ?_, ?_⟩
  ·intro y0 y1 y2 y3 y4 y5 y6 y7 y8 y9 y10 y11 y12 y13 y14 y15 y16 y17 y18 y19 y20 y21 y22 y23 y24 y25 y26 y27 y28 y29 y30 y31
   unfold quartermasterlaw21_ReqApart.j0
   repeat' first
   | (with_reducible exact ih0 _ _ _ _ _ _ _ _ _ _ _ _ _ _ _ _ _ _ _ _ _ _ _ _ _ _ _ _ _ _ _ _)
   | (with_reducible exact ih1 _ _ _ _ _ _ _ _ _ _ _ _ _ _ _ _ _ _ _ _ _ _ _ _ _ _ _ _ _ _ _ _ _)
   | (with_reducible exact ih2 _ _ _ _ _ _ _ _ _ _)
   | (with_reducible exact ih3 _ _ _ _ _ _ _ _ _ _ _ _ _)
   | (with_reducible exact Pa.quartermasterref21_Bytes.mono _ _ _)
   | (with_reducible exact Pa.quartermasterref21_Replies.mono _ _ _ _ _ _ _ _ _ _ _)
   | (with_reducible exact Pa.quartermasterref21_Reqs.mono _ _ _ _ _ _ _ _ _ _ _ _ _ _ _ _ _ _ _ _ _)
   | (with_reducible exact quartermasterlaw21_awake.mono _)
   | (with_reducible exact LeO.refl _)
   | (with_reducible exact LeO.none _)
   | (with_reducible refine LeO.ite ?_ ?_)
   | (with_reducible refine LeO.bind ?_ (fun _ => ?_))
   | exact ih0 _ _ _ _ _ _ _ _ _ _ _ _ _ _ _ _ _ _ _ _ _ _ _ _ _ _ _ _ _ _ _ _
   | exact ih1 _ _ _ _ _ _ _ _ _ _ _ _ _ _ _ _ _ _ _ _ _ _ _ _ _ _ _ _ _ _ _ _ _
   | exact ih2 _ _ _ _ _ _ _ _ _ _
   | exact ih3 _ _ _ _ _ _ _ _ _ _ _ _ _
   | exact Pa.quartermasterref21_Bytes.mono _ _ _
   | exact Pa.quartermasterref21_Replies.mono _ _ _ _ _ _ _ _ _ _ _
   | exact Pa.quartermasterref21_Reqs.mono _ _ _ _ _ _ _ _ _ _ _ _ _ _ _ _ _ _ _ _ _
   | exact quartermasterlaw21_awake.mono _
   | exact LeO.none _
   | refine LeO.ite ?_ ?_
   | refine LeO.bind ?_ (fun _ => ?_)
  ·intro y0 y1 y2 y3 y4 y5 y6 y7 y8 y9 y10 y11 y12 y13 y14 y15 y16 y17 y18 y19 y20 y21 y22 y23 y24 y25 y26 y27 y28 y29 y30 y31 y32
   unfold quartermasterlaw21_ReqApart.j1
   repeat' first
   | (with_reducible exact ih0 _ _ _ _ _ _ _ _ _ _ _ _ _ _ _ _ _ _ _ _ _ _ _ _ _ _ _ _ _ _ _ _)
   | (with_reducible exact ih1 _ _ _ _ _ _ _ _ _ _ _ _ _ _ _ _ _ _ _ _ _ _ _ _ _ _ _ _ _ _ _ _ _)
   | (with_reducible exact ih2 _ _ _ _ _ _ _ _ _ _)
   | (with_reducible exact ih3 _ _ _ _ _ _ _ _ _ _ _ _ _)
   | (with_reducible exact Pa.quartermasterref21_Bytes.mono _ _ _)
   | (with_reducible exact Pa.quartermasterref21_Replies.mono _ _ _ _ _ _ _ _ _ _ _)
   | (with_reducible exact Pa.quartermasterref21_Reqs.mono _ _ _ _ _ _ _ _ _ _ _ _ _ _ _ _ _ _ _ _ _)
   | (with_reducible exact quartermasterlaw21_awake.mono _)
   | (with_reducible exact LeO.refl _)
   | (with_reducible exact LeO.none _)
   | (with_reducible refine LeO.ite ?_ ?_)
   | (with_reducible refine LeO.bind ?_ (fun _ => ?_))
   | exact ih0 _ _ _ _ _ _ _ _ _ _ _ _ _ _ _ _ _ _ _ _ _ _ _ _ _ _ _ _ _ _ _ _
   | exact ih1 _ _ _ _ _ _ _ _ _ _ _ _ _ _ _ _ _ _ _ _ _ _ _ _ _ _ _ _ _ _ _ _ _
   | exact ih2 _ _ _ _ _ _ _ _ _ _
   | exact ih3 _ _ _ _ _ _ _ _ _ _ _ _ _
   | exact Pa.quartermasterref21_Bytes.mono _ _ _
   | exact Pa.quartermasterref21_Replies.mono _ _ _ _ _ _ _ _ _ _ _
   | exact Pa.quartermasterref21_Reqs.mono _ _ _ _ _ _ _ _ _ _ _ _ _ _ _ _ _ _ _ _ _
   | exact quartermasterlaw21_awake.mono _
   | exact LeO.none _
   | refine LeO.ite ?_ ?_
   | refine LeO.bind ?_ (fun _ => ?_)
  ·intro y0 y1 y2 y3 y4 y5 y6 y7 y8 y9
   unfold quartermasterlaw21_ReqApart.j2
   repeat' first
   | (with_reducible exact ih0 _ _ _ _ _ _ _ _ _ _ _ _ _ _ _ _ _ _ _ _ _ _ _ _ _ _ _ _ _ _ _ _)
   | (with_reducible exact ih1 _ _ _ _ _ _ _ _ _ _ _ _ _ _ _ _ _ _ _ _ _ _ _ _ _ _ _ _ _ _ _ _ _)
   | (with_reducible exact ih2 _ _ _ _ _ _ _ _ _ _)
   | (with_reducible exact ih3 _ _ _ _ _ _ _ _ _ _ _ _ _)
   | (with_reducible exact Pa.quartermasterref21_Bytes.mono _ _ _)
   | (with_reducible exact Pa.quartermasterref21_Replies.mono _ _ _ _ _ _ _ _ _ _ _)
   | (with_reducible exact Pa.quartermasterref21_Reqs.mono _ _ _ _ _ _ _ _ _ _ _ _ _ _ _ _ _ _ _ _ _)
   | (with_reducible exact quartermasterlaw21_awake.mono _)
   | (with_reducible exact LeO.refl _)
   | (with_reducible exact LeO.none _)
   | (with_reducible refine LeO.ite ?_ ?_)
   | (with_reducible refine LeO.bind ?_ (fun _ => ?_))
   | exact ih0 _ _ _ _ _ _ _ _ _ _ _ _ _ _ _ _ _ _ _ _ _ _ _ _ _ _ _ _ _ _ _ _
   | exact ih1 _ _ _ _ _ _ _ _ _ _ _ _ _ _ _ _ _ _ _ _ _ _ _ _ _ _ _ _ _ _ _ _ _
   | exact ih2 _ _ _ _ _ _ _ _ _ _
   | exact ih3 _ _ _ _ _ _ _ _ _ _ _ _ _
   | exact Pa.quartermasterref21_Bytes.mono _ _ _
   | exact Pa.quartermasterref21_Replies.mono _ _ _ _ _ _ _ _ _ _ _
   | exact Pa.quartermasterref21_Reqs.mono _ _ _ _ _ _ _ _ _ _ _ _ _ _ _ _ _ _ _ _ _
   | exact quartermasterlaw21_awake.mono _
   | exact LeO.none _
   | refine LeO.ite ?_ ?_
   | refine LeO.bind ?_ (fun _ => ?_)
  intro y0 y1 y2 y3 y4 y5 y6 y7 y8 y9 y10 y11 y12
  unfold quartermasterlaw21_ReqApart.j3
  repeat' first
  | (with_reducible exact ih0 _ _ _ _ _ _ _ _ _ _ _ _ _ _ _ _ _ _ _ _ _ _ _ _ _ _ _ _ _ _ _ _)
  | (with_reducible exact ih1 _ _ _ _ _ _ _ _ _ _ _ _ _ _ _ _ _ _ _ _ _ _ _ _ _ _ _ _ _ _ _ _ _)
  | (with_reducible exact ih2 _ _ _ _ _ _ _ _ _ _)
  | (with_reducible exact ih3 _ _ _ _ _ _ _ _ _ _ _ _ _)
  | (with_reducible exact Pa.quartermasterref21_Bytes.mono _ _ _)
  | (with_reducible exact Pa.quartermasterref21_Replies.mono _ _ _ _ _ _ _ _ _ _ _)
  | (with_reducible exact Pa.quartermasterref21_Reqs.mono _ _ _ _ _ _ _ _ _ _ _ _ _ _ _ _ _ _ _ _ _)
  | (with_reducible exact quartermasterlaw21_awake.mono _)
  | (with_reducible exact LeO.refl _)
  | (with_reducible exact LeO.none _)
  | (with_reducible refine LeO.ite ?_ ?_)
  | (with_reducible refine LeO.bind ?_ (fun _ => ?_))
  | exact ih0 _ _ _ _ _ _ _ _ _ _ _ _ _ _ _ _ _ _ _ _ _ _ _ _ _ _ _ _ _ _ _ _
  | exact ih1 _ _ _ _ _ _ _ _ _ _ _ _ _ _ _ _ _ _ _ _ _ _ _ _ _ _ _ _ _ _ _ _ _
  | exact ih2 _ _ _ _ _ _ _ _ _ _
  | exact ih3 _ _ _ _ _ _ _ _ _ _ _ _ _
  | exact Pa.quartermasterref21_Bytes.mono _ _ _
  | exact Pa.quartermasterref21_Replies.mono _ _ _ _ _ _ _ _ _ _ _
  | exact Pa.quartermasterref21_Reqs.mono _ _ _ _ _ _ _ _ _ _ _ _ _ _ _ _ _ _ _ _ _
  | exact quartermasterlaw21_awake.mono _
  | exact LeO.none _
  | refine LeO.ite ?_ ?_
  | refine LeO.bind ?_ (fun _ => ?_)
theorem quartermasterlaw21_ReqApart.mono : ∀ a0 a1 a2 a3 a4 a5 a6 a7 a8 a9 a10 a11 a12 a13 a14 a15 a16 a17 a18 a19 a20 a21 a22 a23 a24 a25 a26 a27 a28 a29 k, LeO (quartermasterlaw21_ReqApart.f k a0 a1 a2 a3 a4 a5 a6 a7 a8 a9 a10 a11 a12 a13 a14 a15 a16 a17 a18 a19 a20 a21 a22 a23 a24 a25 a26 a27 a28 a29) (quartermasterlaw21_ReqApart.f (k + 1) a0 a1 a2 a3 a4 a5 a6 a7 a8 a9 a10 a11 a12 a13 a14 a15 a16 a17 a18 a19 a20 a21 a22 a23 a24 a25 a26 a27 a28 a29) := by
 intro a0 a1 a2 a3 a4 a5 a6 a7 a8 a9 a10 a11 a12 a13 a14 a15 a16 a17 a18 a19 a20 a21 a22 a23 a24 a25 a26 a27 a28 a29 k
 obtain ⟨ih0, ih1, ih2, ih3⟩ := quartermasterlaw21_ReqApart.mono_l k
 unfold quartermasterlaw21_ReqApart.f
 repeat' first
  | (with_reducible exact ih0 _ _ _ _ _ _ _ _ _ _ _ _ _ _ _ _ _ _ _ _ _ _ _ _ _ _ _ _ _ _ _ _)
  | (with_reducible exact ih1 _ _ _ _ _ _ _ _ _ _ _ _ _ _ _ _ _ _ _ _ _ _ _ _ _ _ _ _ _ _ _ _ _)
  | (with_reducible exact ih2 _ _ _ _ _ _ _ _ _ _)
  | (with_reducible exact ih3 _ _ _ _ _ _ _ _ _ _ _ _ _)
  | (with_reducible exact Pa.quartermasterref21_Bytes.mono _ _ _)
  | (with_reducible exact Pa.quartermasterref21_Replies.mono _ _ _ _ _ _ _ _ _ _ _)
  | (with_reducible exact Pa.quartermasterref21_Reqs.mono _ _ _ _ _ _ _ _ _ _ _ _ _ _ _ _ _ _ _ _ _)
  | (with_reducible exact quartermasterlaw21_awake.mono _)
  | (with_reducible exact LeO.refl _)
  | (with_reducible exact LeO.none _)
  | (with_reducible refine LeO.ite ?_ ?_)
  | (with_reducible refine LeO.bind ?_ (fun _ => ?_))
  | exact ih0 _ _ _ _ _ _ _ _ _ _ _ _ _ _ _ _ _ _ _ _ _ _ _ _ _ _ _ _ _ _ _ _
  | exact ih1 _ _ _ _ _ _ _ _ _ _ _ _ _ _ _ _ _ _ _ _ _ _ _ _ _ _ _ _ _ _ _ _ _
  | exact ih2 _ _ _ _ _ _ _ _ _ _
  | exact ih3 _ _ _ _ _ _ _ _ _ _ _ _ _
  | exact Pa.quartermasterref21_Bytes.mono _ _ _
  | exact Pa.quartermasterref21_Replies.mono _ _ _ _ _ _ _ _ _ _ _
  | exact Pa.quartermasterref21_Reqs.mono _ _ _ _ _ _ _ _ _ _ _ _ _ _ _ _ _ _ _ _ _
  | exact quartermasterlaw21_awake.mono _
  | exact LeO.none _
  | refine LeO.ite ?_ ?_
  | refine LeO.bind ?_ (fun _ => ?_)
set_option maxHeartbeats 8000000 in
set_option maxRecDepth 100000 in
theorem quartermasterlaw21_ReqApart.calls (k : Nat) (a0_0 : Int) (a0_1 : Int) (a0_2 : Int) (a0_3 : Int) (a0_4 : Int) (a0_5 : Int) (a0_6 : Int) (a0_7 : Int) (a0_8 : Int) (A0_9 : Option Addr) (c0_9 : Nat) (l0_9 : List (S93)) (a1_0 : Int) (a1_1 : Int) (a1_2 : Int) (a1_3 : Int) (a1_4 : Int) (a1_5 : Int) (a1_6 : Int) (a1_7 : Int) (a1_8 : Int) (A1_9 : Option Addr) (c1_9 : Nat) (l1_9 : List (S93)) (a2_0 : Int) (a2_1 : Int) (a2_2 : Int) (A2_3 : Option Addr) (c2_3 : Nat) (l2_3 : List (S93)) (A2_4 : Option Addr) (c2_4 : Nat) (l2_4 : List (S76)) (a3_0 : Int) (a3_1 : Int) (a3_2 : Int) (A3_3 : Option Addr) (c3_3 : Nat) (l3_3 : List (S93)) (A3_4 : Option Addr) (c3_4 : Nat) (l3_4 : List (S76)) (r : Bool) (w : World) (hr0_9 : Kd.C k93 w A0_9 l0_9.length l0_9) (hc0_9 : l0_9.length ≤ c0_9) (hr1_9 : Kd.C k93 w A1_9 l1_9.length l1_9) (hc1_9 : l1_9.length ≤ c1_9) (hr2_3 : Kd.C k93 w A2_3 l2_3.length l2_3) (hc2_3 : l2_3.length ≤ c2_3) (hr2_4 : Kd.C k76 w A2_4 l2_4.length l2_4) (hc2_4 : l2_4.length ≤ c2_4) (hr3_3 : Kd.C k93 w A3_3 l3_3.length l3_3) (hc3_3 : l3_3.length ≤ c3_3) (hr3_4 : Kd.C k76 w A3_4 l3_4.length l3_4) (hc3_4 : l3_4.length ≤ c3_4) (h : quartermasterlaw21_ReqApart.f k a0_0 a0_1 a0_2 a0_3 a0_4 a0_5 a0_6 a0_7 a0_8 l0_9 a1_0 a1_1 a1_2 a1_3 a1_4 a1_5 a1_6 a1_7 a1_8 l1_9 a2_0 a2_1 a2_2 l2_3 l2_4 a3_0 a3_1 a3_2 l3_3 l3_4 = some r) :
 Calls Try.prog 4 #[.agg #[.int .i64 a0_0, .int .i64 a0_1, .int .i64 a0_2, .int .i64 a0_3, .int .i64 a0_4, .int .i64 a0_5, .int .i64 a0_6, .int .i64 a0_7, .int .i64 a0_8, .slice A0_9 l0_9.length c0_9], .agg #[.int .i64 a1_0, .int .i64 a1_1, .int .i64 a1_2, .int .i64 a1_3, .int .i64 a1_4, .int .i64 a1_5, .int .i64 a1_6, .int .i64 a1_7, .int .i64 a1_8, .slice A1_9 l1_9.length c1_9], .agg #[.int .i64 a2_0, .int .i64 a2_1, .int .i64 a2_2, .slice A2_3 l2_3.length c2_3, .slice A2_4 l2_4.length c2_4], .agg #[.int .i64 a3_0, .int .i64 a3_1, .int .i64 a3_2, .slice A3_3 l3_3.length c3_3, .slice A3_4 l3_4.length c3_4]] w fun e w' => e = .returned (.bool r) ∧ Below w.heap.size w w' := by
 have hu26 := Try.underlying26
 have hu38 := Try.underlying38
 have HR0_9 := Aside0.mk hr0_9
 have HC0_9 := Aside0.mk hc0_9
 clear hr0_9 hc0_9
 have HR1_9 := Aside0.mk hr1_9
 have HC1_9 := Aside0.mk hc1_9
 clear hr1_9 hc1_9
 have HR2_3 := Aside0.mk hr2_3
 have HC2_3 := Aside0.mk hc2_3
 clear hr2_3 hc2_3
 have HR2_4 := Aside0.mk hr2_4
 have HC2_4 := Aside0.mk hc2_4
 clear hr2_4 hc2_4
 have HR3_3 := Aside0.mk hr3_3
 have HC3_3 := Aside0.mk hc3_3
 clear hr3_3 hc3_3
 have HR3_4 := Aside0.mk hr3_4
 have HC3_4 := Aside0.mk hc3_4
 clear hr3_4 hc3_4
 have HB := Aside0.mk (Below.refl w.heap.size w)
 have H : ((quartermasterlaw21_awake.f k).bind fun t146 => (if t146 = true then (if (l0_9.length : Int) > 20 then (quartermasterlaw21_ReqApart.j0 k t146 true a0_0 a0_1 a0_2 a0_3 a0_4 a0_5 a0_6 a0_7 a0_8 l0_9 a1_0 a1_1 a1_2 a1_3 a1_4 a1_5 a1_6 a1_7 a1_8 l1_9 a2_0 a2_1 a2_2 l2_3 l2_4 a3_0 a3_1 a3_2 l3_3 l3_4) else (if (l1_9.length : Int) > 20 then (quartermasterlaw21_ReqApart.j0 k t146 true a0_0 a0_1 a0_2 a0_3 a0_4 a0_5 a0_6 a0_7 a0_8 l0_9 a1_0 a1_1 a1_2 a1_3 a1_4 a1_5 a1_6 a1_7 a1_8 l1_9 a2_0 a2_1 a2_2 l2_3 l2_4 a3_0 a3_1 a3_2 l3_3 l3_4) else (if (l2_3.length : Int) > 20 then (quartermasterlaw21_ReqApart.j0 k t146 true a0_0 a0_1 a0_2 a0_3 a0_4 a0_5 a0_6 a0_7 a0_8 l0_9 a1_0 a1_1 a1_2 a1_3 a1_4 a1_5 a1_6 a1_7 a1_8 l1_9 a2_0 a2_1 a2_2 l2_3 l2_4 a3_0 a3_1 a3_2 l3_3 l3_4) else (if (l2_4.length : Int) > 20 then (quartermasterlaw21_ReqApart.j0 k t146 true a0_0 a0_1 a0_2 a0_3 a0_4 a0_5 a0_6 a0_7 a0_8 l0_9 a1_0 a1_1 a1_2 a1_3 a1_4 a1_5 a1_6 a1_7 a1_8 l1_9 a2_0 a2_1 a2_2 l2_3 l2_4 a3_0 a3_1 a3_2 l3_3 l3_4) else (if (l3_3.length : Int) > 20 then (quartermasterlaw21_ReqApart.j0 k t146 true a0_0 a0_1 a0_2 a0_3 a0_4 a0_5 a0_6 a0_7 a0_8 l0_9 a1_0 a1_1 a1_2 a1_3 a1_4 a1_5 a1_6 a1_7 a1_8 l1_9 a2_0 a2_1 a2_2 l2_3 l2_4 a3_0 a3_1 a3_2 l3_3 l3_4) else (quartermasterlaw21_ReqApart.j0 k t146 (decide ((l3_4.length : Int) > 20)) a0_0 a0_1 a0_2 a0_3 a0_4 a0_5 a0_6 a0_7 a0_8 l0_9 a1_0 a1_1 a1_2 a1_3 a1_4 a1_5 a1_6 a1_7 a1_8 l1_9 a2_0 a2_1 a2_2 l2_3 l2_4 a3_0 a3_1 a3_2 l3_3 l3_4)))))) else (quartermasterlaw21_ReqApart.j0 k t146 true a0_0 a0_1 a0_2 a0_3 a0_4 a0_5 a0_6 a0_7 a0_8 l0_9 a1_0 a1_1 a1_2 a1_3 a1_4 a1_5 a1_6 a1_7 a1_8 l1_9 a2_0 a2_1 a2_2 l2_3 l2_4 a3_0 a3_1 a3_2 l3_3 l3_4))) = some r := h
 clear h
 replace H := Option.bind_eq_some_iff.mp H
 obtain ⟨t146, A50, H⟩ := H
 replace H : (if t146 = true then (if (l0_9.length : Int) > 20 then (quartermasterlaw21_ReqApart.j0 k t146 true a0_0 a0_1 a0_2 a0_3 a0_4 a0_5 a0_6 a0_7 a0_8 l0_9 a1_0 a1_1 a1_2 a1_3 a1_4 a1_5 a1_6 a1_7 a1_8 l1_9 a2_0 a2_1 a2_2 l2_3 l2_4 a3_0 a3_1 a3_2 l3_3 l3_4) else (if (l1_9.length : Int) > 20 then (quartermasterlaw21_ReqApart.j0 k t146 true a0_0 a0_1 a0_2 a0_3 a0_4 a0_5 a0_6 a0_7 a0_8 l0_9 a1_0 a1_1 a1_2 a1_3 a1_4 a1_5 a1_6 a1_7 a1_8 l1_9 a2_0 a2_1 a2_2 l2_3 l2_4 a3_0 a3_1 a3_2 l3_3 l3_4) else (if (l2_3.length : Int) > 20 then (quartermasterlaw21_ReqApart.j0 k t146 true a0_0 a0_1 a0_2 a0_3 a0_4 a0_5 a0_6 a0_7 a0_8 l0_9 a1_0 a1_1 a1_2 a1_3 a1_4 a1_5 a1_6 a1_7 a1_8 l1_9 a2_0 a2_1 a2_2 l2_3 l2_4 a3_0 a3_1 a3_2 l3_3 l3_4) else (if (l2_4.length : Int) > 20 then (quartermasterlaw21_ReqApart.j0 k t146 true a0_0 a0_1 a0_2 a0_3 a0_4 a0_5 a0_6 a0_7 a0_8 l0_9 a1_0 a1_1 a1_2 a1_3 a1_4 a1_5 a1_6 a1_7 a1_8 l1_9 a2_0 a2_1 a2_2 l2_3 l2_4 a3_0 a3_1 a3_2 l3_3 l3_4) else (if (l3_3.length : Int) > 20 then (quartermasterlaw21_ReqApart.j0 k t146 true a0_0 a0_1 a0_2 a0_3 a0_4 a0_5 a0_6 a0_7 a0_8 l0_9 a1_0 a1_1 a1_2 a1_3 a1_4 a1_5 a1_6 a1_7 a1_8 l1_9 a2_0 a2_1 a2_2 l2_3 l2_4 a3_0 a3_1 a3_2 l3_3 l3_4) else (quartermasterlaw21_ReqApart.j0 k t146 (decide ((l3_4.length : Int) > 20)) a0_0 a0_1 a0_2 a0_3 a0_4 a0_5 a0_6 a0_7 a0_8 l0_9 a1_0 a1_1 a1_2 a1_3 a1_4 a1_5 a1_6 a1_7 a1_8 l1_9 a2_0 a2_1 a2_2 l2_3 l2_4 a3_0 a3_1 a3_2 l3_3 l3_4)))))) else (quartermasterlaw21_ReqApart.j0 k t146 true a0_0 a0_1 a0_2 a0_3 a0_4 a0_5 a0_6 a0_7 a0_8 l0_9 a1_0 a1_1 a1_2 a1_3 a1_4 a1_5 a1_6 a1_7 a1_8 l1_9 a2_0 a2_1 a2_2 l2_3 l2_4 a3_0 a3_1 a3_2 l3_3 l3_4)) = some r := H
 have A5 := Aside0.mk A50
 clear A50
 have HC6 := Aside0.mk H
 clear H
 go_enter Try.func4, Try.ntmps4
 go_upto_region 2 with (first | ((with_reducible refine gate_dst (N := 4) rfl ?_); (try (refine gate_guard (by rfl) ?_; dsimp only)); refine box_event ?hg (N := 4) ?hd (cs := #[.int .i64 a0_0, .int .i64 a0_1, .int .i64 a0_2, .int .i64 a0_3, .int .i64 a0_4, .int .i64 a0_5, .int .i64 a0_6, .int .i64 a0_7, .int .i64 a0_8, .slice A0_9 l0_9.length c0_9]) (t := 26) ?hr ?_; (case hd => rfl); (case hg => rfl); (case hr => first | (go_simp; done) | (go_simp; rfl)); intro gb142 hg w7 hbox hb; have n0_ := Aside0.mk (below_step (by repeat (first | (with_reducible first | exact HB.out | apply below_alloc | apply pw_below_drewN | apply below_drew1) | exact HB.out)) hb); have n1_ := Aside0.mk (hbox); have n2_ := Aside0.mk ((by rw [hg]; exact (below_size (by repeat (first | (with_reducible first | exact HB.out | apply below_alloc | apply pw_below_drewN | apply below_drew1) | exact HB.out))) : w.heap.size ≤ gb142)); have n3_ := Aside0.mk ((by rw [hg]; exact (below_size (by repeat (first | (with_reducible first | exact HB.out | apply below_alloc | apply pw_below_drewN | apply below_drew1) | exact HB.out))) : w.heap.size ≤ gb142)); clear HB; have HB := n0_; have BK142 := n1_; have GW142 := n2_; have GE142 := n3_; clear n0_ n1_ n2_ n3_; clear hb hbox hg) | ((with_reducible refine gate_dst (N := 5) rfl ?_); (try (refine gate_guard (by rfl) ?_; dsimp only)); refine box_event ?hg (N := 5) ?hd (cs := #[.int .i64 a1_0, .int .i64 a1_1, .int .i64 a1_2, .int .i64 a1_3, .int .i64 a1_4, .int .i64 a1_5, .int .i64 a1_6, .int .i64 a1_7, .int .i64 a1_8, .slice A1_9 l1_9.length c1_9]) (t := 26) ?hr ?_; (case hd => rfl); (case hg => rfl); (case hr => first | (go_simp; done) | (go_simp; rfl)); intro gb143 hg w8 hbox hb; have n0_ := Aside0.mk (blk_below (g := gb142) (o := .cells #[.int .i64 a0_0, .int .i64 a0_1, .int .i64 a0_2, .int .i64 a0_3, .int .i64 a0_4, .int .i64 a0_5, .int .i64 a0_6, .int .i64 a0_7, .int .i64 a0_8, .slice A0_9 l0_9.length c0_9] 26 (0, 0)) (by (with_reducible repeat (first | refine blk_drewN ?_ _ | refine blk_drew ?_ | refine blk_alloc ?_ _)); exact BK142.out) hb); have n1_ := Aside0.mk (below_step (by repeat (first | (with_reducible first | exact HB.out | apply below_alloc | apply pw_below_drewN | apply below_drew1 | refine below_set ?_ GE142.out) | exact HB.out)) hb); have n2_ := Aside0.mk (hbox); have n3_ := Aside0.mk ((by rw [hg]; exact (below_size (by repeat (first | (with_reducible first | exact HB.out | apply below_alloc | apply pw_below_drewN | apply below_drew1 | refine below_set ?_ GE142.out) | exact HB.out))) : w.heap.size ≤ gb143)); have n4_ := Aside0.mk ((by rw [hg]; exact (below_size (by repeat (first | (with_reducible first | exact HB.out | apply below_alloc | apply pw_below_drewN | apply below_drew1 | refine below_set ?_ GE142.out) | exact HB.out))) : w.heap.size ≤ gb143)); have n5_ := Aside0.mk ((by rw [hg]; exact Nat.ne_of_lt (blk_lt (g := gb142) (o := .cells #[.int .i64 a0_0, .int .i64 a0_1, .int .i64 a0_2, .int .i64 a0_3, .int .i64 a0_4, .int .i64 a0_5, .int .i64 a0_6, .int .i64 a0_7, .int .i64 a0_8, .slice A0_9 l0_9.length c0_9] 26 (0, 0)) (by (with_reducible repeat (first | refine blk_drewN ?_ _ | refine blk_drew ?_ | refine blk_alloc ?_ _)); exact BK142.out)) : gb142 ≠ gb143)); have n6_ := Aside0.mk ((by rw [hg]; exact Nat.ne_of_gt (blk_lt (g := gb142) (o := .cells #[.int .i64 a0_0, .int .i64 a0_1, .int .i64 a0_2, .int .i64 a0_3, .int .i64 a0_4, .int .i64 a0_5, .int .i64 a0_6, .int .i64 a0_7, .int .i64 a0_8, .slice A0_9 l0_9.length c0_9] 26 (0, 0)) (by (with_reducible repeat (first | refine blk_drewN ?_ _ | refine blk_drew ?_ | refine blk_alloc ?_ _)); exact BK142.out)) : gb143 ≠ gb142)); clear BK142; clear HB; have BK142 := n0_; have HB := n1_; have BK143 := n2_; have GW143 := n3_; have GE143 := n4_; have NB142_143 := n5_; have NB143_142 := n6_; clear n0_ n1_ n2_ n3_ n4_ n5_ n6_; clear hb hbox hg) | ((with_reducible refine gate_dst (N := 6) rfl ?_); (try (refine gate_guard (by rfl) ?_; dsimp only)); refine box_event ?hg (N := 6) ?hd (cs := #[.int .i64 a2_0, .int .i64 a2_1, .int .i64 a2_2, .slice A2_3 l2_3.length c2_3, .slice A2_4 l2_4.length c2_4]) (t := 38) ?hr ?_; (case hd => rfl); (case hg => rfl); (case hr => first | (go_simp; done) | (go_simp; rfl)); intro gb144 hg w9 hbox hb; have n0_ := Aside0.mk (blk_below (g := gb142) (o := .cells #[.int .i64 a0_0, .int .i64 a0_1, .int .i64 a0_2, .int .i64 a0_3, .int .i64 a0_4, .int .i64 a0_5, .int .i64 a0_6, .int .i64 a0_7, .int .i64 a0_8, .slice A0_9 l0_9.length c0_9] 26 (0, 0)) (by (with_reducible repeat (first | refine blk_drewN ?_ _ | refine blk_drew ?_ | refine blk_alloc ?_ _)); exact BK142.out) hb); have n1_ := Aside0.mk (blk_below (g := gb143) (o := .cells #[.int .i64 a1_0, .int .i64 a1_1, .int .i64 a1_2, .int .i64 a1_3, .int .i64 a1_4, .int .i64 a1_5, .int .i64 a1_6, .int .i64 a1_7, .int .i64 a1_8, .slice A1_9 l1_9.length c1_9] 26 (0, 0)) (by (with_reducible repeat (first | refine blk_drewN ?_ _ | refine blk_drew ?_ | refine blk_alloc ?_ _)); exact BK143.out) hb); have n2_ := Aside0.mk (below_step (by repeat (first | (with_reducible first | exact HB.out | apply below_alloc | apply pw_below_drewN | apply below_drew1 | refine below_set ?_ GE142.out | refine below_set ?_ GE143.out) | exact HB.out)) hb); have n3_ := Aside0.mk (hbox); have n4_ := Aside0.mk ((by rw [hg]; exact (below_size (by repeat (first | (with_reducible first | exact HB.out | apply below_alloc | apply pw_below_drewN | apply below_drew1 | refine below_set ?_ GE142.out | refine below_set ?_ GE143.out) | exact HB.out))) : w.heap.size ≤ gb144)); have n5_ := Aside0.mk ((by rw [hg]; exact (below_size (by repeat (first | (with_reducible first | exact HB.out | apply below_alloc | apply pw_below_drewN | apply below_drew1 | refine below_set ?_ GE142.out | refine below_set ?_ GE143.out) | exact HB.out))) : w.heap.size ≤ gb144)); have n6_ := Aside0.mk ((by rw [hg]; exact Nat.ne_of_lt (blk_lt (g := gb142) (o := .cells #[.int .i64 a0_0, .int .i64 a0_1, .int .i64 a0_2, .int .i64 a0_3, .int .i64 a0_4, .int .i64 a0_5, .int .i64 a0_6, .int .i64 a0_7, .int .i64 a0_8, .slice A0_9 l0_9.length c0_9] 26 (0, 0)) (by (with_reducible repeat (first | refine blk_drewN ?_ _ | refine blk_drew ?_ | refine blk_alloc ?_ _)); exact BK142.out)) : gb142 ≠ gb144)); have n7_ := Aside0.mk ((by rw [hg]; exact Nat.ne_of_gt (blk_lt (g := gb142) (o := .cells #[.int .i64 a0_0, .int .i64 a0_1, .int .i64 a0_2, .int .i64 a0_3, .int .i64 a0_4, .int .i64 a0_5, .int .i64 a0_6, .int .i64 a0_7, .int .i64 a0_8, .slice A0_9 l0_9.length c0_9] 26 (0, 0)) (by (with_reducible repeat (first | refine blk_drewN ?_ _ | refine blk_drew ?_ | refine blk_alloc ?_ _)); exact BK142.out)) : gb144 ≠ gb142)); have n8_ := Aside0.mk ((by rw [hg]; exact Nat.ne_of_lt (blk_lt (g := gb143) (o := .cells #[.int .i64 a1_0, .int .i64 a1_1, .int .i64 a1_2, .int .i64 a1_3, .int .i64 a1_4, .int .i64 a1_5, .int .i64 a1_6, .int .i64 a1_7, .int .i64 a1_8, .slice A1_9 l1_9.length c1_9] 26 (0, 0)) (by (with_reducible repeat (first | refine blk_drewN ?_ _ | refine blk_drew ?_ | refine blk_alloc ?_ _)); exact BK143.out)) : gb143 ≠ gb144)); have n9_ := Aside0.mk ((by rw [hg]; exact Nat.ne_of_gt (blk_lt (g := gb143) (o := .cells #[.int .i64 a1_0, .int .i64 a1_1, .int .i64 a1_2, .int .i64 a1_3, .int .i64 a1_4, .int .i64 a1_5, .int .i64 a1_6, .int .i64 a1_7, .int .i64 a1_8, .slice A1_9 l1_9.length c1_9] 26 (0, 0)) (by (with_reducible repeat (first | refine blk_drewN ?_ _ | refine blk_drew ?_ | refine blk_alloc ?_ _)); exact BK143.out)) : gb144 ≠ gb143)); clear BK142; clear BK143; clear HB; have BK142 := n0_; have BK143 := n1_; have HB := n2_; have BK144 := n3_; have GW144 := n4_; have GE144 := n5_; have NB142_144 := n6_; have NB144_142 := n7_; have NB143_144 := n8_; have NB144_143 := n9_; clear n0_ n1_ n2_ n3_ n4_ n5_ n6_ n7_ n8_ n9_; clear hb hbox hg) | ((with_reducible refine gate_dst (N := 7) rfl ?_); (try (refine gate_guard (by rfl) ?_; dsimp only)); refine box_event ?hg (N := 7) ?hd (cs := #[.int .i64 a3_0, .int .i64 a3_1, .int .i64 a3_2, .slice A3_3 l3_3.length c3_3, .slice A3_4 l3_4.length c3_4]) (t := 38) ?hr ?_; (case hd => rfl); (case hg => rfl); (case hr => first | (go_simp; done) | (go_simp; rfl)); intro gb145 hg w10 hbox hb; have n0_ := Aside0.mk (blk_below (g := gb142) (o := .cells #[.int .i64 a0_0, .int .i64 a0_1, .int .i64 a0_2, .int .i64 a0_3, .int .i64 a0_4, .int .i64 a0_5, .int .i64 a0_6, .int .i64 a0_7, .int .i64 a0_8, .slice A0_9 l0_9.length c0_9] 26 (0, 0)) (by (with_reducible repeat (first | refine blk_drewN ?_ _ | refine blk_drew ?_ | refine blk_alloc ?_ _)); exact BK142.out) hb); have n1_ := Aside0.mk (blk_below (g := gb143) (o := .cells #[.int .i64 a1_0, .int .i64 a1_1, .int .i64 a1_2, .int .i64 a1_3, .int .i64 a1_4, .int .i64 a1_5, .int .i64 a1_6, .int .i64 a1_7, .int .i64 a1_8, .slice A1_9 l1_9.length c1_9] 26 (0, 0)) (by (with_reducible repeat (first | refine blk_drewN ?_ _ | refine blk_drew ?_ | refine blk_alloc ?_ _)); exact BK143.out) hb); have n2_ := Aside0.mk (blk_below (g := gb144) (o := .cells #[.int .i64 a2_0, .int .i64 a2_1, .int .i64 a2_2, .slice A2_3 l2_3.length c2_3, .slice A2_4 l2_4.length c2_4] 38 (0, 0)) (by (with_reducible repeat (first | refine blk_drewN ?_ _ | refine blk_drew ?_ | refine blk_alloc ?_ _)); exact BK144.out) hb); have n3_ := Aside0.mk (below_step (by repeat (first | (with_reducible first | exact HB.out | apply below_alloc | apply pw_below_drewN | apply below_drew1 | refine below_set ?_ GE142.out | refine below_set ?_ GE143.out | refine below_set ?_ GE144.out) | exact HB.out)) hb); have n4_ := Aside0.mk (hbox); have n5_ := Aside0.mk ((by rw [hg]; exact (below_size (by repeat (first | (with_reducible first | exact HB.out | apply below_alloc | apply pw_below_drewN | apply below_drew1 | refine below_set ?_ GE142.out | refine below_set ?_ GE143.out | refine below_set ?_ GE144.out) | exact HB.out))) : w.heap.size ≤ gb145)); have n6_ := Aside0.mk ((by rw [hg]; exact (below_size (by repeat (first | (with_reducible first | exact HB.out | apply below_alloc | apply pw_below_drewN | apply below_drew1 | refine below_set ?_ GE142.out | refine below_set ?_ GE143.out | refine below_set ?_ GE144.out) | exact HB.out))) : w.heap.size ≤ gb145)); have n7_ := Aside0.mk ((by rw [hg]; exact Nat.ne_of_lt (blk_lt (g := gb142) (o := .cells #[.int .i64 a0_0, .int .i64 a0_1, .int .i64 a0_2, .int .i64 a0_3, .int .i64 a0_4, .int .i64 a0_5, .int .i64 a0_6, .int .i64 a0_7, .int .i64 a0_8, .slice A0_9 l0_9.length c0_9] 26 (0, 0)) (by (with_reducible repeat (first | refine blk_drewN ?_ _ | refine blk_drew ?_ | refine blk_alloc ?_ _)); exact BK142.out)) : gb142 ≠ gb145)); have n8_ := Aside0.mk ((by rw [hg]; exact Nat.ne_of_gt (blk_lt (g := gb142) (o := .cells #[.int .i64 a0_0, .int .i64 a0_1, .int .i64 a0_2, .int .i64 a0_3, .int .i64 a0_4, .int .i64 a0_5, .int .i64 a0_6, .int .i64 a0_7, .int .i64 a0_8, .slice A0_9 l0_9.length c0_9] 26 (0, 0)) (by (with_reducible repeat (first | refine blk_drewN ?_ _ | refine blk_drew ?_ | refine blk_alloc ?_ _)); exact BK142.out)) : gb145 ≠ gb142)); have n9_ := Aside0.mk ((by rw [hg]; exact Nat.ne_of_lt (blk_lt (g := gb143) (o := .cells #[.int .i64 a1_0, .int .i64 a1_1, .int .i64 a1_2, .int .i64 a1_3, .int .i64 a1_4, .int .i64 a1_5, .int .i64 a1_6, .int .i64 a1_7, .int .i64 a1_8, .slice A1_9 l1_9.length c1_9] 26 (0, 0)) (by (with_reducible repeat (first | refine blk_drewN ?_ _ | refine blk_drew ?_ | refine blk_alloc ?_ _)); exact BK143.out)) : gb143 ≠ gb145)); have n10_ := Aside0.mk ((by rw [hg]; exact Nat.ne_of_gt (blk_lt (g := gb143) (o := .cells #[.int .i64 a1_0, .int .i64 a1_1, .int .i64 a1_2, .int .i64 a1_3, .int .i64 a1_4, .int .i64 a1_5, .int .i64 a1_6, .int .i64 a1_7, .int .i64 a1_8, .slice A1_9 l1_9.length c1_9] 26 (0, 0)) (by (with_reducible repeat (first | refine blk_drewN ?_ _ | refine blk_drew ?_ | refine blk_alloc ?_ _)); exact BK143.out)) : gb145 ≠ gb143)); have n11_ := Aside0.mk ((by rw [hg]; exact Nat.ne_of_lt (blk_lt (g := gb144) (o := .cells #[.int .i64 a2_0, .int .i64 a2_1, .int .i64 a2_2, .slice A2_3 l2_3.length c2_3, .slice A2_4 l2_4.length c2_4] 38 (0, 0)) (by (with_reducible repeat (first | refine blk_drewN ?_ _ | refine blk_drew ?_ | refine blk_alloc ?_ _)); exact BK144.out)) : gb144 ≠ gb145)); have n12_ := Aside0.mk ((by rw [hg]; exact Nat.ne_of_gt (blk_lt (g := gb144) (o := .cells #[.int .i64 a2_0, .int .i64 a2_1, .int .i64 a2_2, .slice A2_3 l2_3.length c2_3, .slice A2_4 l2_4.length c2_4] 38 (0, 0)) (by (with_reducible repeat (first | refine blk_drewN ?_ _ | refine blk_drew ?_ | refine blk_alloc ?_ _)); exact BK144.out)) : gb145 ≠ gb144)); clear BK142; clear BK143; clear BK144; clear HB; have BK142 := n0_; have BK143 := n1_; have BK144 := n2_; have HB := n3_; have BK145 := n4_; have GW145 := n5_; have GE145 := n6_; have NB142_145 := n7_; have NB145_142 := n8_; have NB143_145 := n9_; have NB145_143 := n10_; have NB144_145 := n11_; have NB145_144 := n12_; clear n0_ n1_ n2_ n3_ n4_ n5_ n6_ n7_ n8_ n9_ n10_ n11_ n12_; clear hb hbox hg) | ((with_reducible refine gate_callee (f := 8) rfl ?_); refine goesL_ (some 22) rfl rfl Try.func8 (by kernel_rfl) rfl #[] rfl (by (try simp only [List.map_toArray, List.map_cons, List.map_nil]); first | done | rfl | (simp only [List.length_drop, List.length_take]; rfl)) ?_; (with_reducible refine (quartermasterlaw21_awake.calls k  t146 _ A5.out).mono ?_); rintro e w11 ⟨rfl, hb⟩; refine ⟨_, rfl, ?_⟩; have n0_ := Aside0.mk (blk_below (g := gb142) (o := .cells #[.int .i64 a0_0, .int .i64 a0_1, .int .i64 a0_2, .int .i64 a0_3, .int .i64 a0_4, .int .i64 a0_5, .int .i64 a0_6, .int .i64 a0_7, .int .i64 a0_8, .slice A0_9 l0_9.length c0_9] 26 (0, 0)) (by (with_reducible repeat (first | refine blk_drewN ?_ _ | refine blk_drew ?_ | refine blk_alloc ?_ _)); exact BK142.out) hb); have n1_ := Aside0.mk (blk_below (g := gb143) (o := .cells #[.int .i64 a1_0, .int .i64 a1_1, .int .i64 a1_2, .int .i64 a1_3, .int .i64 a1_4, .int .i64 a1_5, .int .i64 a1_6, .int .i64 a1_7, .int .i64 a1_8, .slice A1_9 l1_9.length c1_9] 26 (0, 0)) (by (with_reducible repeat (first | refine blk_drewN ?_ _ | refine blk_drew ?_ | refine blk_alloc ?_ _)); exact BK143.out) hb); have n2_ := Aside0.mk (blk_below (g := gb144) (o := .cells #[.int .i64 a2_0, .int .i64 a2_1, .int .i64 a2_2, .slice A2_3 l2_3.length c2_3, .slice A2_4 l2_4.length c2_4] 38 (0, 0)) (by (with_reducible repeat (first | refine blk_drewN ?_ _ | refine blk_drew ?_ | refine blk_alloc ?_ _)); exact BK144.out) hb); have n3_ := Aside0.mk (blk_below (g := gb145) (o := .cells #[.int .i64 a3_0, .int .i64 a3_1, .int .i64 a3_2, .slice A3_3 l3_3.length c3_3, .slice A3_4 l3_4.length c3_4] 38 (0, 0)) (by (with_reducible repeat (first | refine blk_drewN ?_ _ | refine blk_drew ?_ | refine blk_alloc ?_ _)); exact BK145.out) hb); have n4_ := Aside0.mk (below_step (by repeat (first | (with_reducible first | exact HB.out | apply below_alloc | apply pw_below_drewN | apply below_drew1 | refine below_set ?_ GE142.out | refine below_set ?_ GE143.out | refine below_set ?_ GE144.out | refine below_set ?_ GE145.out) | exact HB.out)) hb); clear BK142; clear BK143; clear BK144; clear BK145; clear HB; have BK142 := n0_; have BK143 := n1_; have BK144 := n2_; have BK145 := n3_; have HB := n4_; clear n0_ n1_ n2_ n3_ n4_; (try clear hb); (try clear hb2); (try clear hk); (try clear hi)))
 (try simp only [Act.put, List.setIfInBounds_toArray, List.set_cons_zero, List.set_cons_succ])
 go_cut [60] (fun v60 wc => ∃ (kq : Nat) (x60_5 : Bool), v60 = .bool x60_5 ∧ Aside0 (quartermasterlaw21_ReqApart.j0 kq t146 x60_5 a0_0 a0_1 a0_2 a0_3 a0_4 a0_5 a0_6 a0_7 a0_8 l0_9 a1_0 a1_1 a1_2 a1_3 a1_4 a1_5 a1_6 a1_7 a1_8 l1_9 a2_0 a2_1 a2_2 l2_3 l2_4 a3_0 a3_1 a3_2 l3_3 l3_4 = some r) ∧ Aside0 (kq ≤ k) ∧ Aside0 (wc.heap[gb142]? = some (.cells #[.int .i64 a0_0, .int .i64 a0_1, .int .i64 a0_2, .int .i64 a0_3, .int .i64 a0_4, .int .i64 a0_5, .int .i64 a0_6, .int .i64 a0_7, .int .i64 a0_8, (.slice A0_9 l0_9.length c0_9)] 26 (0, 0))) ∧ Aside0 (wc.heap[gb143]? = some (.cells #[.int .i64 a1_0, .int .i64 a1_1, .int .i64 a1_2, .int .i64 a1_3, .int .i64 a1_4, .int .i64 a1_5, .int .i64 a1_6, .int .i64 a1_7, .int .i64 a1_8, (.slice A1_9 l1_9.length c1_9)] 26 (0, 0))) ∧ Aside0 (wc.heap[gb144]? = some (.cells #[.int .i64 a2_0, .int .i64 a2_1, .int .i64 a2_2, (.slice A2_3 l2_3.length c2_3), (.slice A2_4 l2_4.length c2_4)] 38 (0, 0))) ∧ Aside0 (wc.heap[gb145]? = some (.cells #[.int .i64 a3_0, .int .i64 a3_1, .int .i64 a3_2, (.slice A3_3 l3_3.length c3_3), (.slice A3_4 l3_4.length c3_4)] 38 (0, 0))) ∧ Aside0 (Below w.heap.size w wc))
 case first =>
  have H := HC6.out
  clear HC6
  by_cases c12 : t146 = true
  rotate_left
  ·replace c12 := Bool.eq_false_iff.mpr c12
   subst c12
   have H1 : (quartermasterlaw21_ReqApart.j0 k false true a0_0 a0_1 a0_2 a0_3 a0_4 a0_5 a0_6 a0_7 a0_8 l0_9 a1_0 a1_1 a1_2 a1_3 a1_4 a1_5 a1_6 a1_7 a1_8 l1_9 a2_0 a2_1 a2_2 l2_3 l2_4 a3_0 a3_1 a3_2 l3_3 l3_4) = some r := by rw [if_neg (show ¬ (false = true) by decide)] at H; exact H
   clear H
   have H := H1
   clear H1
   have H' := Aside0.mk H
   clear H
   go_wp2
   go_meet
   case rel => exact ⟨_, (true), (by first | rfl | (simp; done) | (simp [*]; done)), H', ⟨by first | omega | exact Nat.le_refl _⟩, ⟨by (with_reducible repeat (first | refine blk_drewN ?_ _ | refine blk_drew ?_ | refine blk_alloc ?_ _)); exact BK142.out⟩, ⟨by (with_reducible repeat (first | refine blk_drewN ?_ _ | refine blk_drew ?_ | refine blk_alloc ?_ _)); exact BK143.out⟩, ⟨by (with_reducible repeat (first | refine blk_drewN ?_ _ | refine blk_drew ?_ | refine blk_alloc ?_ _)); exact BK144.out⟩, ⟨by (with_reducible repeat (first | refine blk_drewN ?_ _ | refine blk_drew ?_ | refine blk_alloc ?_ _)); exact BK145.out⟩, ⟨by repeat (first | (with_reducible first | exact HB.out | apply below_alloc | apply pw_below_drewN | apply below_drew1 | refine below_set ?_ GE142.out | refine below_set ?_ GE143.out | refine below_set ?_ GE144.out | refine below_set ?_ GE145.out) | exact HB.out)⟩⟩
  subst c12
  have H1 : (if (l0_9.length : Int) > 20 then (quartermasterlaw21_ReqApart.j0 k true true a0_0 a0_1 a0_2 a0_3 a0_4 a0_5 a0_6 a0_7 a0_8 l0_9 a1_0 a1_1 a1_2 a1_3 a1_4 a1_5 a1_6 a1_7 a1_8 l1_9 a2_0 a2_1 a2_2 l2_3 l2_4 a3_0 a3_1 a3_2 l3_3 l3_4) else (if (l1_9.length : Int) > 20 then (quartermasterlaw21_ReqApart.j0 k true true a0_0 a0_1 a0_2 a0_3 a0_4 a0_5 a0_6 a0_7 a0_8 l0_9 a1_0 a1_1 a1_2 a1_3 a1_4 a1_5 a1_6 a1_7 a1_8 l1_9 a2_0 a2_1 a2_2 l2_3 l2_4 a3_0 a3_1 a3_2 l3_3 l3_4) else (if (l2_3.length : Int) > 20 then (quartermasterlaw21_ReqApart.j0 k true true a0_0 a0_1 a0_2 a0_3 a0_4 a0_5 a0_6 a0_7 a0_8 l0_9 a1_0 a1_1 a1_2 a1_3 a1_4 a1_5 a1_6 a1_7 a1_8 l1_9 a2_0 a2_1 a2_2 l2_3 l2_4 a3_0 a3_1 a3_2 l3_3 l3_4) else (if (l2_4.length : Int) > 20 then (quartermasterlaw21_ReqApart.j0 k true true a0_0 a0_1 a0_2 a0_3 a0_4 a0_5 a0_6 a0_7 a0_8 l0_9 a1_0 a1_1 a1_2 a1_3 a1_4 a1_5 a1_6 a1_7 a1_8 l1_9 a2_0 a2_1 a2_2 l2_3 l2_4 a3_0 a3_1 a3_2 l3_3 l3_4) else (if (l3_3.length : Int) > 20 then (quartermasterlaw21_ReqApart.j0 k true true a0_0 a0_1 a0_2 a0_3 a0_4 a0_5 a0_6 a0_7 a0_8 l0_9 a1_0 a1_1 a1_2 a1_3 a1_4 a1_5 a1_6 a1_7 a1_8 l1_9 a2_0 a2_1 a2_2 l2_3 l2_4 a3_0 a3_1 a3_2 l3_3 l3_4) else (quartermasterlaw21_ReqApart.j0 k true (decide ((l3_4.length : Int) > 20)) a0_0 a0_1 a0_2 a0_3 a0_4 a0_5 a0_6 a0_7 a0_8 l0_9 a1_0 a1_1 a1_2 a1_3 a1_4 a1_5 a1_6 a1_7 a1_8 l1_9 a2_0 a2_1 a2_2 l2_3 l2_4 a3_0 a3_1 a3_2 l3_3 l3_4)))))) = some r := by rw [if_pos rfl] at H; exact H
  clear H
  have H := H1
  clear H1
  by_cases c13 : (l0_9.length : Int) > 20
  ·rw [if_pos c13] at H
   have c13b0 : decide (20 < (l0_9.length : Int)) = true := decide_eq_true c13
   have c13b1 : decide (20 < l0_9.length) = true := decide_eq_true (by omega)
   clear c13
   (first | rw [c13b0] | (simp only [i64_w, i32_w]; rw [c13b0]) | skip)
   have H' := Aside0.mk H
   clear H
   have hnb14 := NB142_143.out
   have hnc14 := NB143_142.out
   have hnb15 := NB142_144.out
   have hnc15 := NB144_142.out
   have hnb16 := NB142_145.out
   have hnc16 := NB145_142.out
   have hcz17_0 : w11.cell? ⟨gb142, 0, none⟩ = some (.int .i64 a0_0) := (blk_cell BK142.out 0).trans rfl
   have hcz17_1 : w11.cell? ⟨gb142, 1, none⟩ = some (.int .i64 a0_1) := (blk_cell BK142.out 1).trans rfl
   have hcz17_2 : w11.cell? ⟨gb142, 2, none⟩ = some (.int .i64 a0_2) := (blk_cell BK142.out 2).trans rfl
   have hcz17_3 : w11.cell? ⟨gb142, 3, none⟩ = some (.int .i64 a0_3) := (blk_cell BK142.out 3).trans rfl
   have hcz17_4 : w11.cell? ⟨gb142, 4, none⟩ = some (.int .i64 a0_4) := (blk_cell BK142.out 4).trans rfl
   have hcz17_5 : w11.cell? ⟨gb142, 5, none⟩ = some (.int .i64 a0_5) := (blk_cell BK142.out 5).trans rfl
   have hcz17_6 : w11.cell? ⟨gb142, 6, none⟩ = some (.int .i64 a0_6) := (blk_cell BK142.out 6).trans rfl
   have hcz17_7 : w11.cell? ⟨gb142, 7, none⟩ = some (.int .i64 a0_7) := (blk_cell BK142.out 7).trans rfl
   have hcz17_8 : w11.cell? ⟨gb142, 8, none⟩ = some (.int .i64 a0_8) := (blk_cell BK142.out 8).trans rfl
   have hcz17_9 : w11.cell? ⟨gb142, 9, none⟩ = some (.slice A0_9 l0_9.length c0_9) := (blk_cell BK142.out 9).trans rfl
   have hfz17_0 := blk_frozen BK142.out 0
   have hfz17_1 := blk_frozen BK142.out 1
   have hfz17_2 := blk_frozen BK142.out 2
   have hfz17_3 := blk_frozen BK142.out 3
   have hfz17_4 := blk_frozen BK142.out 4
   have hfz17_5 := blk_frozen BK142.out 5
   have hfz17_6 := blk_frozen BK142.out 6
   have hfz17_7 := blk_frozen BK142.out 7
   have hfz17_8 := blk_frozen BK142.out 8
   have hfz17_9 := blk_frozen BK142.out 9
   go_wp2
   go_meet
   case rel => exact ⟨_, (true), (by first | rfl | (simp; done) | (simp [*]; done)), H', ⟨by first | omega | exact Nat.le_refl _⟩, ⟨by (with_reducible repeat (first | refine blk_drewN ?_ _ | refine blk_drew ?_ | refine blk_alloc ?_ _)); exact BK142.out⟩, ⟨by (with_reducible repeat (first | refine blk_drewN ?_ _ | refine blk_drew ?_ | refine blk_alloc ?_ _)); exact BK143.out⟩, ⟨by (with_reducible repeat (first | refine blk_drewN ?_ _ | refine blk_drew ?_ | refine blk_alloc ?_ _)); exact BK144.out⟩, ⟨by (with_reducible repeat (first | refine blk_drewN ?_ _ | refine blk_drew ?_ | refine blk_alloc ?_ _)); exact BK145.out⟩, ⟨by repeat (first | (with_reducible first | exact HB.out | apply below_alloc | apply pw_below_drewN | apply below_drew1 | refine below_set ?_ GE142.out | refine below_set ?_ GE143.out | refine below_set ?_ GE144.out | refine below_set ?_ GE145.out) | exact HB.out)⟩⟩
  rw [if_neg c13] at H
  have c13b0 : decide (20 < (l0_9.length : Int)) = false := decide_eq_false c13
  have c13b1 : decide (20 < l0_9.length) = false := decide_eq_false (by omega)
  clear c13
  (first | rw [c13b0] | (simp only [i64_w, i32_w]; rw [c13b0]) | skip)
  by_cases c18 : (l1_9.length : Int) > 20
  ·rw [if_pos c18] at H
   have c18b0 : decide (20 < (l1_9.length : Int)) = true := decide_eq_true c18
   have c18b1 : decide (20 < l1_9.length) = true := decide_eq_true (by omega)
   clear c18
   have H' := Aside0.mk H
   clear H
   have hnb19 := NB142_143.out
   have hnc19 := NB143_142.out
   have hnb20 := NB142_144.out
   have hnc20 := NB144_142.out
   have hnb21 := NB142_145.out
   have hnc21 := NB145_142.out
   have hcz22_0 : w11.cell? ⟨gb142, 0, none⟩ = some (.int .i64 a0_0) := (blk_cell BK142.out 0).trans rfl
   have hcz22_1 : w11.cell? ⟨gb142, 1, none⟩ = some (.int .i64 a0_1) := (blk_cell BK142.out 1).trans rfl
   have hcz22_2 : w11.cell? ⟨gb142, 2, none⟩ = some (.int .i64 a0_2) := (blk_cell BK142.out 2).trans rfl
   have hcz22_3 : w11.cell? ⟨gb142, 3, none⟩ = some (.int .i64 a0_3) := (blk_cell BK142.out 3).trans rfl
   have hcz22_4 : w11.cell? ⟨gb142, 4, none⟩ = some (.int .i64 a0_4) := (blk_cell BK142.out 4).trans rfl
   have hcz22_5 : w11.cell? ⟨gb142, 5, none⟩ = some (.int .i64 a0_5) := (blk_cell BK142.out 5).trans rfl
   have hcz22_6 : w11.cell? ⟨gb142, 6, none⟩ = some (.int .i64 a0_6) := (blk_cell BK142.out 6).trans rfl
   have hcz22_7 : w11.cell? ⟨gb142, 7, none⟩ = some (.int .i64 a0_7) := (blk_cell BK142.out 7).trans rfl
   have hcz22_8 : w11.cell? ⟨gb142, 8, none⟩ = some (.int .i64 a0_8) := (blk_cell BK142.out 8).trans rfl
   have hcz22_9 : w11.cell? ⟨gb142, 9, none⟩ = some (.slice A0_9 l0_9.length c0_9) := (blk_cell BK142.out 9).trans rfl
   have hfz22_0 := blk_frozen BK142.out 0
   have hfz22_1 := blk_frozen BK142.out 1
   have hfz22_2 := blk_frozen BK142.out 2
   have hfz22_3 := blk_frozen BK142.out 3
   have hfz22_4 := blk_frozen BK142.out 4
   have hfz22_5 := blk_frozen BK142.out 5
   have hfz22_6 := blk_frozen BK142.out 6
   have hfz22_7 := blk_frozen BK142.out 7
   have hfz22_8 := blk_frozen BK142.out 8
   have hfz22_9 := blk_frozen BK142.out 9
   have hnb23 := NB143_144.out
   have hnc23 := NB144_143.out
   have hnb24 := NB143_145.out
   have hnc24 := NB145_143.out
   have hcz25_0 : w11.cell? ⟨gb143, 0, none⟩ = some (.int .i64 a1_0) := (blk_cell BK143.out 0).trans rfl
   have hcz25_1 : w11.cell? ⟨gb143, 1, none⟩ = some (.int .i64 a1_1) := (blk_cell BK143.out 1).trans rfl
   have hcz25_2 : w11.cell? ⟨gb143, 2, none⟩ = some (.int .i64 a1_2) := (blk_cell BK143.out 2).trans rfl
   have hcz25_3 : w11.cell? ⟨gb143, 3, none⟩ = some (.int .i64 a1_3) := (blk_cell BK143.out 3).trans rfl
   have hcz25_4 : w11.cell? ⟨gb143, 4, none⟩ = some (.int .i64 a1_4) := (blk_cell BK143.out 4).trans rfl
   have hcz25_5 : w11.cell? ⟨gb143, 5, none⟩ = some (.int .i64 a1_5) := (blk_cell BK143.out 5).trans rfl
   have hcz25_6 : w11.cell? ⟨gb143, 6, none⟩ = some (.int .i64 a1_6) := (blk_cell BK143.out 6).trans rfl
   have hcz25_7 : w11.cell? ⟨gb143, 7, none⟩ = some (.int .i64 a1_7) := (blk_cell BK143.out 7).trans rfl
   have hcz25_8 : w11.cell? ⟨gb143, 8, none⟩ = some (.int .i64 a1_8) := (blk_cell BK143.out 8).trans rfl
   have hcz25_9 : w11.cell? ⟨gb143, 9, none⟩ = some (.slice A1_9 l1_9.length c1_9) := (blk_cell BK143.out 9).trans rfl
   have hfz25_0 := blk_frozen BK143.out 0
   have hfz25_1 := blk_frozen BK143.out 1
   have hfz25_2 := blk_frozen BK143.out 2
   have hfz25_3 := blk_frozen BK143.out 3
   have hfz25_4 := blk_frozen BK143.out 4
   have hfz25_5 := blk_frozen BK143.out 5
   have hfz25_6 := blk_frozen BK143.out 6
   have hfz25_7 := blk_frozen BK143.out 7
   have hfz25_8 := blk_frozen BK143.out 8
   have hfz25_9 := blk_frozen BK143.out 9
   go_wp2
   go_meet
   case rel => exact ⟨_, (true), (by first | rfl | (simp; done) | (simp [*]; done)), H', ⟨by first | omega | exact Nat.le_refl _⟩, ⟨by (with_reducible repeat (first | refine blk_drewN ?_ _ | refine blk_drew ?_ | refine blk_alloc ?_ _)); exact BK142.out⟩, ⟨by (with_reducible repeat (first | refine blk_drewN ?_ _ | refine blk_drew ?_ | refine blk_alloc ?_ _)); exact BK143.out⟩, ⟨by (with_reducible repeat (first | refine blk_drewN ?_ _ | refine blk_drew ?_ | refine blk_alloc ?_ _)); exact BK144.out⟩, ⟨by (with_reducible repeat (first | refine blk_drewN ?_ _ | refine blk_drew ?_ | refine blk_alloc ?_ _)); exact BK145.out⟩, ⟨by repeat (first | (with_reducible first | exact HB.out | apply below_alloc | apply pw_below_drewN | apply below_drew1 | refine below_set ?_ GE142.out | refine below_set ?_ GE143.out | refine below_set ?_ GE144.out | refine below_set ?_ GE145.out) | exact HB.out)⟩⟩
  rw [if_neg c18] at H
  have c18b0 : decide (20 < (l1_9.length : Int)) = false := decide_eq_false c18
  have c18b1 : decide (20 < l1_9.length) = false := decide_eq_false (by omega)
  clear c18
  by_cases c26 : (l2_3.length : Int) > 20
  ·rw [if_pos c26] at H
   have c26b0 : decide (20 < (l2_3.length : Int)) = true := decide_eq_true c26
   have c26b1 : decide (20 < l2_3.length) = true := decide_eq_true (by omega)
   clear c26
   have H' := Aside0.mk H
   clear H
   have hnb27 := NB142_143.out
   have hnc27 := NB143_142.out
   have hnb28 := NB142_144.out
   have hnc28 := NB144_142.out
   have hnb29 := NB142_145.out
   have hnc29 := NB145_142.out
   have hcz30_0 : w11.cell? ⟨gb142, 0, none⟩ = some (.int .i64 a0_0) := (blk_cell BK142.out 0).trans rfl
   have hcz30_1 : w11.cell? ⟨gb142, 1, none⟩ = some (.int .i64 a0_1) := (blk_cell BK142.out 1).trans rfl
   have hcz30_2 : w11.cell? ⟨gb142, 2, none⟩ = some (.int .i64 a0_2) := (blk_cell BK142.out 2).trans rfl
   have hcz30_3 : w11.cell? ⟨gb142, 3, none⟩ = some (.int .i64 a0_3) := (blk_cell BK142.out 3).trans rfl
   have hcz30_4 : w11.cell? ⟨gb142, 4, none⟩ = some (.int .i64 a0_4) := (blk_cell BK142.out 4).trans rfl
   have hcz30_5 : w11.cell? ⟨gb142, 5, none⟩ = some (.int .i64 a0_5) := (blk_cell BK142.out 5).trans rfl
   have hcz30_6 : w11.cell? ⟨gb142, 6, none⟩ = some (.int .i64 a0_6) := (blk_cell BK142.out 6).trans rfl
   have hcz30_7 : w11.cell? ⟨gb142, 7, none⟩ = some (.int .i64 a0_7) := (blk_cell BK142.out 7).trans rfl
   have hcz30_8 : w11.cell? ⟨gb142, 8, none⟩ = some (.int .i64 a0_8) := (blk_cell BK142.out 8).trans rfl
   have hcz30_9 : w11.cell? ⟨gb142, 9, none⟩ = some (.slice A0_9 l0_9.length c0_9) := (blk_cell BK142.out 9).trans rfl
   have hfz30_0 := blk_frozen BK142.out 0
   have hfz30_1 := blk_frozen BK142.out 1
   have hfz30_2 := blk_frozen BK142.out 2
   have hfz30_3 := blk_frozen BK142.out 3
   have hfz30_4 := blk_frozen BK142.out 4
   have hfz30_5 := blk_frozen BK142.out 5
   have hfz30_6 := blk_frozen BK142.out 6
   have hfz30_7 := blk_frozen BK142.out 7
   have hfz30_8 := blk_frozen BK142.out 8
   have hfz30_9 := blk_frozen BK142.out 9
   have hnb31 := NB143_144.out
   have hnc31 := NB144_143.out
   have hnb32 := NB143_145.out
   have hnc32 := NB145_143.out
   have hcz33_0 : w11.cell? ⟨gb143, 0, none⟩ = some (.int .i64 a1_0) := (blk_cell BK143.out 0).trans rfl
   have hcz33_1 : w11.cell? ⟨gb143, 1, none⟩ = some (.int .i64 a1_1) := (blk_cell BK143.out 1).trans rfl
   have hcz33_2 : w11.cell? ⟨gb143, 2, none⟩ = some (.int .i64 a1_2) := (blk_cell BK143.out 2).trans rfl
   have hcz33_3 : w11.cell? ⟨gb143, 3, none⟩ = some (.int .i64 a1_3) := (blk_cell BK143.out 3).trans rfl
   have hcz33_4 : w11.cell? ⟨gb143, 4, none⟩ = some (.int .i64 a1_4) := (blk_cell BK143.out 4).trans rfl
   have hcz33_5 : w11.cell? ⟨gb143, 5, none⟩ = some (.int .i64 a1_5) := (blk_cell BK143.out 5).trans rfl
   have hcz33_6 : w11.cell? ⟨gb143, 6, none⟩ = some (.int .i64 a1_6) := (blk_cell BK143.out 6).trans rfl
   have hcz33_7 : w11.cell? ⟨gb143, 7, none⟩ = some (.int .i64 a1_7) := (blk_cell BK143.out 7).trans rfl
   have hcz33_8 : w11.cell? ⟨gb143, 8, none⟩ = some (.int .i64 a1_8) := (blk_cell BK143.out 8).trans rfl
   have hcz33_9 : w11.cell? ⟨gb143, 9, none⟩ = some (.slice A1_9 l1_9.length c1_9) := (blk_cell BK143.out 9).trans rfl
   have hfz33_0 := blk_frozen BK143.out 0
   have hfz33_1 := blk_frozen BK143.out 1
   have hfz33_2 := blk_frozen BK143.out 2
   have hfz33_3 := blk_frozen BK143.out 3
   have hfz33_4 := blk_frozen BK143.out 4
   have hfz33_5 := blk_frozen BK143.out 5
   have hfz33_6 := blk_frozen BK143.out 6
   have hfz33_7 := blk_frozen BK143.out 7
   have hfz33_8 := blk_frozen BK143.out 8
   have hfz33_9 := blk_frozen BK143.out 9
   have hnb34 := NB144_145.out
   have hnc34 := NB145_144.out
   have hcz35_0 : w11.cell? ⟨gb144, 0, none⟩ = some (.int .i64 a2_0) := (blk_cell BK144.out 0).trans rfl
   have hcz35_1 : w11.cell? ⟨gb144, 1, none⟩ = some (.int .i64 a2_1) := (blk_cell BK144.out 1).trans rfl
   have hcz35_2 : w11.cell? ⟨gb144, 2, none⟩ = some (.int .i64 a2_2) := (blk_cell BK144.out 2).trans rfl
   have hcz35_3 : w11.cell? ⟨gb144, 3, none⟩ = some (.slice A2_3 l2_3.length c2_3) := (blk_cell BK144.out 3).trans rfl
   have hcz35_4 : w11.cell? ⟨gb144, 4, none⟩ = some (.slice A2_4 l2_4.length c2_4) := (blk_cell BK144.out 4).trans rfl
   have hfz35_0 := blk_frozen BK144.out 0
   have hfz35_1 := blk_frozen BK144.out 1
   have hfz35_2 := blk_frozen BK144.out 2
   have hfz35_3 := blk_frozen BK144.out 3
   have hfz35_4 := blk_frozen BK144.out 4
   go_wp2
   go_meet
   case rel => exact ⟨_, (true), (by first | rfl | (simp; done) | (simp [*]; done)), H', ⟨by first | omega | exact Nat.le_refl _⟩, ⟨by (with_reducible repeat (first | refine blk_drewN ?_ _ | refine blk_drew ?_ | refine blk_alloc ?_ _)); exact BK142.out⟩, ⟨by (with_reducible repeat (first | refine blk_drewN ?_ _ | refine blk_drew ?_ | refine blk_alloc ?_ _)); exact BK143.out⟩, ⟨by (with_reducible repeat (first | refine blk_drewN ?_ _ | refine blk_drew ?_ | refine blk_alloc ?_ _)); exact BK144.out⟩, ⟨by (with_reducible repeat (first | refine blk_drewN ?_ _ | refine blk_drew ?_ | refine blk_alloc ?_ _)); exact BK145.out⟩, ⟨by repeat (first | (with_reducible first | exact HB.out | apply below_alloc | apply pw_below_drewN | apply below_drew1 | refine below_set ?_ GE142.out | refine below_set ?_ GE143.out | refine below_set ?_ GE144.out | refine below_set ?_ GE145.out) | exact HB.out)⟩⟩
  rw [if_neg c26] at H
  have c26b0 : decide (20 < (l2_3.length : Int)) = false := decide_eq_false c26
  have c26b1 : decide (20 < l2_3.length) = false := decide_eq_false (by omega)
  clear c26
  by_cases c36 : (l2_4.length : Int) > 20
  ·rw [if_pos c36] at H
   have c36b0 : decide (20 < (l2_4.length : Int)) = true := decide_eq_true c36
   have c36b1 : decide (20 < l2_4.length) = true := decide_eq_true (by omega)
   clear c36
   have H' := Aside0.mk H
   clear H
   have hnb37 := NB142_143.out
   have hnc37 := NB143_142.out
   have hnb38 := NB142_144.out
   have hnc38 := NB144_142.out
   have hnb39 := NB142_145.out
   have hnc39 := NB145_142.out
   have hcz40_0 : w11.cell? ⟨gb142, 0, none⟩ = some (.int .i64 a0_0) := (blk_cell BK142.out 0).trans rfl
   have hcz40_1 : w11.cell? ⟨gb142, 1, none⟩ = some (.int .i64 a0_1) := (blk_cell BK142.out 1).trans rfl
   have hcz40_2 : w11.cell? ⟨gb142, 2, none⟩ = some (.int .i64 a0_2) := (blk_cell BK142.out 2).trans rfl
   have hcz40_3 : w11.cell? ⟨gb142, 3, none⟩ = some (.int .i64 a0_3) := (blk_cell BK142.out 3).trans rfl
   have hcz40_4 : w11.cell? ⟨gb142, 4, none⟩ = some (.int .i64 a0_4) := (blk_cell BK142.out 4).trans rfl
   have hcz40_5 : w11.cell? ⟨gb142, 5, none⟩ = some (.int .i64 a0_5) := (blk_cell BK142.out 5).trans rfl
   have hcz40_6 : w11.cell? ⟨gb142, 6, none⟩ = some (.int .i64 a0_6) := (blk_cell BK142.out 6).trans rfl
   have hcz40_7 : w11.cell? ⟨gb142, 7, none⟩ = some (.int .i64 a0_7) := (blk_cell BK142.out 7).trans rfl
   have hcz40_8 : w11.cell? ⟨gb142, 8, none⟩ = some (.int .i64 a0_8) := (blk_cell BK142.out 8).trans rfl
   have hcz40_9 : w11.cell? ⟨gb142, 9, none⟩ = some (.slice A0_9 l0_9.length c0_9) := (blk_cell BK142.out 9).trans rfl
   have hfz40_0 := blk_frozen BK142.out 0
   have hfz40_1 := blk_frozen BK142.out 1
   have hfz40_2 := blk_frozen BK142.out 2
   have hfz40_3 := blk_frozen BK142.out 3
   have hfz40_4 := blk_frozen BK142.out 4
   have hfz40_5 := blk_frozen BK142.out 5
   have hfz40_6 := blk_frozen BK142.out 6
   have hfz40_7 := blk_frozen BK142.out 7
   have hfz40_8 := blk_frozen BK142.out 8
   have hfz40_9 := blk_frozen BK142.out 9
   have hnb41 := NB143_144.out
   have hnc41 := NB144_143.out
   have hnb42 := NB143_145.out
   have hnc42 := NB145_143.out
   have hcz43_0 : w11.cell? ⟨gb143, 0, none⟩ = some (.int .i64 a1_0) := (blk_cell BK143.out 0).trans rfl
   have hcz43_1 : w11.cell? ⟨gb143, 1, none⟩ = some (.int .i64 a1_1) := (blk_cell BK143.out 1).trans rfl
   have hcz43_2 : w11.cell? ⟨gb143, 2, none⟩ = some (.int .i64 a1_2) := (blk_cell BK143.out 2).trans rfl
   have hcz43_3 : w11.cell? ⟨gb143, 3, none⟩ = some (.int .i64 a1_3) := (blk_cell BK143.out 3).trans rfl
   have hcz43_4 : w11.cell? ⟨gb143, 4, none⟩ = some (.int .i64 a1_4) := (blk_cell BK143.out 4).trans rfl
   have hcz43_5 : w11.cell? ⟨gb143, 5, none⟩ = some (.int .i64 a1_5) := (blk_cell BK143.out 5).trans rfl
   have hcz43_6 : w11.cell? ⟨gb143, 6, none⟩ = some (.int .i64 a1_6) := (blk_cell BK143.out 6).trans rfl
   have hcz43_7 : w11.cell? ⟨gb143, 7, none⟩ = some (.int .i64 a1_7) := (blk_cell BK143.out 7).trans rfl
   have hcz43_8 : w11.cell? ⟨gb143, 8, none⟩ = some (.int .i64 a1_8) := (blk_cell BK143.out 8).trans rfl
   have hcz43_9 : w11.cell? ⟨gb143, 9, none⟩ = some (.slice A1_9 l1_9.length c1_9) := (blk_cell BK143.out 9).trans rfl
   have hfz43_0 := blk_frozen BK143.out 0
   have hfz43_1 := blk_frozen BK143.out 1
   have hfz43_2 := blk_frozen BK143.out 2
   have hfz43_3 := blk_frozen BK143.out 3
   have hfz43_4 := blk_frozen BK143.out 4
   have hfz43_5 := blk_frozen BK143.out 5
   have hfz43_6 := blk_frozen BK143.out 6
   have hfz43_7 := blk_frozen BK143.out 7
   have hfz43_8 := blk_frozen BK143.out 8
   have hfz43_9 := blk_frozen BK143.out 9
   have hnb44 := NB144_145.out
   have hnc44 := NB145_144.out
   have hcz45_0 : w11.cell? ⟨gb144, 0, none⟩ = some (.int .i64 a2_0) := (blk_cell BK144.out 0).trans rfl
   have hcz45_1 : w11.cell? ⟨gb144, 1, none⟩ = some (.int .i64 a2_1) := (blk_cell BK144.out 1).trans rfl
   have hcz45_2 : w11.cell? ⟨gb144, 2, none⟩ = some (.int .i64 a2_2) := (blk_cell BK144.out 2).trans rfl
   have hcz45_3 : w11.cell? ⟨gb144, 3, none⟩ = some (.slice A2_3 l2_3.length c2_3) := (blk_cell BK144.out 3).trans rfl
   have hcz45_4 : w11.cell? ⟨gb144, 4, none⟩ = some (.slice A2_4 l2_4.length c2_4) := (blk_cell BK144.out 4).trans rfl
   have hfz45_0 := blk_frozen BK144.out 0
   have hfz45_1 := blk_frozen BK144.out 1
   have hfz45_2 := blk_frozen BK144.out 2
   have hfz45_3 := blk_frozen BK144.out 3
   have hfz45_4 := blk_frozen BK144.out 4
   go_wp2
   go_meet
   case rel => exact ⟨_, (true), (by first | rfl | (simp; done) | (simp [*]; done)), H', ⟨by first | omega | exact Nat.le_refl _⟩, ⟨by (with_reducible repeat (first | refine blk_drewN ?_ _ | refine blk_drew ?_ | refine blk_alloc ?_ _)); exact BK142.out⟩, ⟨by (with_reducible repeat (first | refine blk_drewN ?_ _ | refine blk_drew ?_ | refine blk_alloc ?_ _)); exact BK143.out⟩, ⟨by (with_reducible repeat (first | refine blk_drewN ?_ _ | refine blk_drew ?_ | refine blk_alloc ?_ _)); exact BK144.out⟩, ⟨by (with_reducible repeat (first | refine blk_drewN ?_ _ | refine blk_drew ?_ | refine blk_alloc ?_ _)); exact BK145.out⟩, ⟨by repeat (first | (with_reducible first | exact HB.out | apply below_alloc | apply pw_below_drewN | apply below_drew1 | refine below_set ?_ GE142.out | refine below_set ?_ GE143.out | refine below_set ?_ GE144.out | refine below_set ?_ GE145.out) | exact HB.out)⟩⟩
  rw [if_neg c36] at H
  have c36b0 : decide (20 < (l2_4.length : Int)) = false := decide_eq_false c36
  have c36b1 : decide (20 < l2_4.length) = false := decide_eq_false (by omega)
  clear c36
  by_cases c46 : (l3_3.length : Int) > 20
  ·rw [if_pos c46] at H
   have c46b0 : decide (20 < (l3_3.length : Int)) = true := decide_eq_true c46
   have c46b1 : decide (20 < l3_3.length) = true := decide_eq_true (by omega)
   clear c46
   have H' := Aside0.mk H
   clear H
   have hnb47 := NB142_143.out
   have hnc47 := NB143_142.out
   have hnb48 := NB142_144.out
   have hnc48 := NB144_142.out
   have hnb49 := NB142_145.out
   have hnc49 := NB145_142.out
   have hcz50_0 : w11.cell? ⟨gb142, 0, none⟩ = some (.int .i64 a0_0) := (blk_cell BK142.out 0).trans rfl
   have hcz50_1 : w11.cell? ⟨gb142, 1, none⟩ = some (.int .i64 a0_1) := (blk_cell BK142.out 1).trans rfl
   have hcz50_2 : w11.cell? ⟨gb142, 2, none⟩ = some (.int .i64 a0_2) := (blk_cell BK142.out 2).trans rfl
   have hcz50_3 : w11.cell? ⟨gb142, 3, none⟩ = some (.int .i64 a0_3) := (blk_cell BK142.out 3).trans rfl
   have hcz50_4 : w11.cell? ⟨gb142, 4, none⟩ = some (.int .i64 a0_4) := (blk_cell BK142.out 4).trans rfl
   have hcz50_5 : w11.cell? ⟨gb142, 5, none⟩ = some (.int .i64 a0_5) := (blk_cell BK142.out 5).trans rfl
   have hcz50_6 : w11.cell? ⟨gb142, 6, none⟩ = some (.int .i64 a0_6) := (blk_cell BK142.out 6).trans rfl
   have hcz50_7 : w11.cell? ⟨gb142, 7, none⟩ = some (.int .i64 a0_7) := (blk_cell BK142.out 7).trans rfl
   have hcz50_8 : w11.cell? ⟨gb142, 8, none⟩ = some (.int .i64 a0_8) := (blk_cell BK142.out 8).trans rfl
   have hcz50_9 : w11.cell? ⟨gb142, 9, none⟩ = some (.slice A0_9 l0_9.length c0_9) := (blk_cell BK142.out 9).trans rfl
   have hfz50_0 := blk_frozen BK142.out 0
   have hfz50_1 := blk_frozen BK142.out 1
   have hfz50_2 := blk_frozen BK142.out 2
   have hfz50_3 := blk_frozen BK142.out 3
   have hfz50_4 := blk_frozen BK142.out 4
   have hfz50_5 := blk_frozen BK142.out 5
   have hfz50_6 := blk_frozen BK142.out 6
   have hfz50_7 := blk_frozen BK142.out 7
   have hfz50_8 := blk_frozen BK142.out 8
   have hfz50_9 := blk_frozen BK142.out 9
   have hnb51 := NB143_144.out
   have hnc51 := NB144_143.out
   have hnb52 := NB143_145.out
   have hnc52 := NB145_143.out
   have hcz53_0 : w11.cell? ⟨gb143, 0, none⟩ = some (.int .i64 a1_0) := (blk_cell BK143.out 0).trans rfl
   have hcz53_1 : w11.cell? ⟨gb143, 1, none⟩ = some (.int .i64 a1_1) := (blk_cell BK143.out 1).trans rfl
   have hcz53_2 : w11.cell? ⟨gb143, 2, none⟩ = some (.int .i64 a1_2) := (blk_cell BK143.out 2).trans rfl
   have hcz53_3 : w11.cell? ⟨gb143, 3, none⟩ = some (.int .i64 a1_3) := (blk_cell BK143.out 3).trans rfl
   have hcz53_4 : w11.cell? ⟨gb143, 4, none⟩ = some (.int .i64 a1_4) := (blk_cell BK143.out 4).trans rfl
   have hcz53_5 : w11.cell? ⟨gb143, 5, none⟩ = some (.int .i64 a1_5) := (blk_cell BK143.out 5).trans rfl
   have hcz53_6 : w11.cell? ⟨gb143, 6, none⟩ = some (.int .i64 a1_6) := (blk_cell BK143.out 6).trans rfl
   have hcz53_7 : w11.cell? ⟨gb143, 7, none⟩ = some (.int .i64 a1_7) := (blk_cell BK143.out 7).trans rfl
   have hcz53_8 : w11.cell? ⟨gb143, 8, none⟩ = some (.int .i64 a1_8) := (blk_cell BK143.out 8).trans rfl
   have hcz53_9 : w11.cell? ⟨gb143, 9, none⟩ = some (.slice A1_9 l1_9.length c1_9) := (blk_cell BK143.out 9).trans rfl
   have hfz53_0 := blk_frozen BK143.out 0
   have hfz53_1 := blk_frozen BK143.out 1
   have hfz53_2 := blk_frozen BK143.out 2
   have hfz53_3 := blk_frozen BK143.out 3
   have hfz53_4 := blk_frozen BK143.out 4
   have hfz53_5 := blk_frozen BK143.out 5
   have hfz53_6 := blk_frozen BK143.out 6
   have hfz53_7 := blk_frozen BK143.out 7
   have hfz53_8 := blk_frozen BK143.out 8
   have hfz53_9 := blk_frozen BK143.out 9
   have hnb54 := NB144_145.out
   have hnc54 := NB145_144.out
   have hcz55_0 : w11.cell? ⟨gb144, 0, none⟩ = some (.int .i64 a2_0) := (blk_cell BK144.out 0).trans rfl
   have hcz55_1 : w11.cell? ⟨gb144, 1, none⟩ = some (.int .i64 a2_1) := (blk_cell BK144.out 1).trans rfl
   have hcz55_2 : w11.cell? ⟨gb144, 2, none⟩ = some (.int .i64 a2_2) := (blk_cell BK144.out 2).trans rfl
   have hcz55_3 : w11.cell? ⟨gb144, 3, none⟩ = some (.slice A2_3 l2_3.length c2_3) := (blk_cell BK144.out 3).trans rfl
   have hcz55_4 : w11.cell? ⟨gb144, 4, none⟩ = some (.slice A2_4 l2_4.length c2_4) := (blk_cell BK144.out 4).trans rfl
   have hfz55_0 := blk_frozen BK144.out 0
   have hfz55_1 := blk_frozen BK144.out 1
   have hfz55_2 := blk_frozen BK144.out 2
   have hfz55_3 := blk_frozen BK144.out 3
   have hfz55_4 := blk_frozen BK144.out 4
   have hcz56_0 : w11.cell? ⟨gb145, 0, none⟩ = some (.int .i64 a3_0) := (blk_cell BK145.out 0).trans rfl
   have hcz56_1 : w11.cell? ⟨gb145, 1, none⟩ = some (.int .i64 a3_1) := (blk_cell BK145.out 1).trans rfl
   have hcz56_2 : w11.cell? ⟨gb145, 2, none⟩ = some (.int .i64 a3_2) := (blk_cell BK145.out 2).trans rfl
   have hcz56_3 : w11.cell? ⟨gb145, 3, none⟩ = some (.slice A3_3 l3_3.length c3_3) := (blk_cell BK145.out 3).trans rfl
   have hcz56_4 : w11.cell? ⟨gb145, 4, none⟩ = some (.slice A3_4 l3_4.length c3_4) := (blk_cell BK145.out 4).trans rfl
   have hfz56_0 := blk_frozen BK145.out 0
   have hfz56_1 := blk_frozen BK145.out 1
   have hfz56_2 := blk_frozen BK145.out 2
   have hfz56_3 := blk_frozen BK145.out 3
   have hfz56_4 := blk_frozen BK145.out 4
   go_wp2
   go_meet
   case rel => exact ⟨_, (true), (by first | rfl | (simp; done) | (simp [*]; done)), H', ⟨by first | omega | exact Nat.le_refl _⟩, ⟨by (with_reducible repeat (first | refine blk_drewN ?_ _ | refine blk_drew ?_ | refine blk_alloc ?_ _)); exact BK142.out⟩, ⟨by (with_reducible repeat (first | refine blk_drewN ?_ _ | refine blk_drew ?_ | refine blk_alloc ?_ _)); exact BK143.out⟩, ⟨by (with_reducible repeat (first | refine blk_drewN ?_ _ | refine blk_drew ?_ | refine blk_alloc ?_ _)); exact BK144.out⟩, ⟨by (with_reducible repeat (first | refine blk_drewN ?_ _ | refine blk_drew ?_ | refine blk_alloc ?_ _)); exact BK145.out⟩, ⟨by repeat (first | (with_reducible first | exact HB.out | apply below_alloc | apply pw_below_drewN | apply below_drew1 | refine below_set ?_ GE142.out | refine below_set ?_ GE143.out | refine below_set ?_ GE144.out | refine below_set ?_ GE145.out) | exact HB.out)⟩⟩
  rw [if_neg c46] at H
  have c46b0 : decide (20 < (l3_3.length : Int)) = false := decide_eq_false c46
  have c46b1 : decide (20 < l3_3.length) = false := decide_eq_false (by omega)
  clear c46
  have H' := Aside0.mk H
  clear H
  have hnb57 := NB142_143.out
  have hnc57 := NB143_142.out
  have hnb58 := NB142_144.out
  have hnc58 := NB144_142.out
  have hnb59 := NB142_145.out
  have hnc59 := NB145_142.out
  have hcz60_0 : w11.cell? ⟨gb142, 0, none⟩ = some (.int .i64 a0_0) := (blk_cell BK142.out 0).trans rfl
  have hcz60_1 : w11.cell? ⟨gb142, 1, none⟩ = some (.int .i64 a0_1) := (blk_cell BK142.out 1).trans rfl
  have hcz60_2 : w11.cell? ⟨gb142, 2, none⟩ = some (.int .i64 a0_2) := (blk_cell BK142.out 2).trans rfl
  have hcz60_3 : w11.cell? ⟨gb142, 3, none⟩ = some (.int .i64 a0_3) := (blk_cell BK142.out 3).trans rfl
  have hcz60_4 : w11.cell? ⟨gb142, 4, none⟩ = some (.int .i64 a0_4) := (blk_cell BK142.out 4).trans rfl
  have hcz60_5 : w11.cell? ⟨gb142, 5, none⟩ = some (.int .i64 a0_5) := (blk_cell BK142.out 5).trans rfl
  have hcz60_6 : w11.cell? ⟨gb142, 6, none⟩ = some (.int .i64 a0_6) := (blk_cell BK142.out 6).trans rfl
  have hcz60_7 : w11.cell? ⟨gb142, 7, none⟩ = some (.int .i64 a0_7) := (blk_cell BK142.out 7).trans rfl
  have hcz60_8 : w11.cell? ⟨gb142, 8, none⟩ = some (.int .i64 a0_8) := (blk_cell BK142.out 8).trans rfl
  have hcz60_9 : w11.cell? ⟨gb142, 9, none⟩ = some (.slice A0_9 l0_9.length c0_9) := (blk_cell BK142.out 9).trans rfl
  have hfz60_0 := blk_frozen BK142.out 0
  have hfz60_1 := blk_frozen BK142.out 1
  have hfz60_2 := blk_frozen BK142.out 2
  have hfz60_3 := blk_frozen BK142.out 3
  have hfz60_4 := blk_frozen BK142.out 4
  have hfz60_5 := blk_frozen BK142.out 5
  have hfz60_6 := blk_frozen BK142.out 6
  have hfz60_7 := blk_frozen BK142.out 7
  have hfz60_8 := blk_frozen BK142.out 8
  have hfz60_9 := blk_frozen BK142.out 9
  have hnb61 := NB143_144.out
  have hnc61 := NB144_143.out
  have hnb62 := NB143_145.out
  have hnc62 := NB145_143.out
  have hcz63_0 : w11.cell? ⟨gb143, 0, none⟩ = some (.int .i64 a1_0) := (blk_cell BK143.out 0).trans rfl
  have hcz63_1 : w11.cell? ⟨gb143, 1, none⟩ = some (.int .i64 a1_1) := (blk_cell BK143.out 1).trans rfl
  have hcz63_2 : w11.cell? ⟨gb143, 2, none⟩ = some (.int .i64 a1_2) := (blk_cell BK143.out 2).trans rfl
  have hcz63_3 : w11.cell? ⟨gb143, 3, none⟩ = some (.int .i64 a1_3) := (blk_cell BK143.out 3).trans rfl
  have hcz63_4 : w11.cell? ⟨gb143, 4, none⟩ = some (.int .i64 a1_4) := (blk_cell BK143.out 4).trans rfl
  have hcz63_5 : w11.cell? ⟨gb143, 5, none⟩ = some (.int .i64 a1_5) := (blk_cell BK143.out 5).trans rfl
  have hcz63_6 : w11.cell? ⟨gb143, 6, none⟩ = some (.int .i64 a1_6) := (blk_cell BK143.out 6).trans rfl
  have hcz63_7 : w11.cell? ⟨gb143, 7, none⟩ = some (.int .i64 a1_7) := (blk_cell BK143.out 7).trans rfl
  have hcz63_8 : w11.cell? ⟨gb143, 8, none⟩ = some (.int .i64 a1_8) := (blk_cell BK143.out 8).trans rfl
  have hcz63_9 : w11.cell? ⟨gb143, 9, none⟩ = some (.slice A1_9 l1_9.length c1_9) := (blk_cell BK143.out 9).trans rfl
  have hfz63_0 := blk_frozen BK143.out 0
  have hfz63_1 := blk_frozen BK143.out 1
  have hfz63_2 := blk_frozen BK143.out 2
  have hfz63_3 := blk_frozen BK143.out 3
  have hfz63_4 := blk_frozen BK143.out 4
  have hfz63_5 := blk_frozen BK143.out 5
  have hfz63_6 := blk_frozen BK143.out 6
  have hfz63_7 := blk_frozen BK143.out 7
  have hfz63_8 := blk_frozen BK143.out 8
  have hfz63_9 := blk_frozen BK143.out 9
  have hnb64 := NB144_145.out
  have hnc64 := NB145_144.out
  have hcz65_0 : w11.cell? ⟨gb144, 0, none⟩ = some (.int .i64 a2_0) := (blk_cell BK144.out 0).trans rfl
  have hcz65_1 : w11.cell? ⟨gb144, 1, none⟩ = some (.int .i64 a2_1) := (blk_cell BK144.out 1).trans rfl
  have hcz65_2 : w11.cell? ⟨gb144, 2, none⟩ = some (.int .i64 a2_2) := (blk_cell BK144.out 2).trans rfl
  have hcz65_3 : w11.cell? ⟨gb144, 3, none⟩ = some (.slice A2_3 l2_3.length c2_3) := (blk_cell BK144.out 3).trans rfl
  have hcz65_4 : w11.cell? ⟨gb144, 4, none⟩ = some (.slice A2_4 l2_4.length c2_4) := (blk_cell BK144.out 4).trans rfl
  have hfz65_0 := blk_frozen BK144.out 0
  have hfz65_1 := blk_frozen BK144.out 1
  have hfz65_2 := blk_frozen BK144.out 2
  have hfz65_3 := blk_frozen BK144.out 3
  have hfz65_4 := blk_frozen BK144.out 4
  have hcz66_0 : w11.cell? ⟨gb145, 0, none⟩ = some (.int .i64 a3_0) := (blk_cell BK145.out 0).trans rfl
  have hcz66_1 : w11.cell? ⟨gb145, 1, none⟩ = some (.int .i64 a3_1) := (blk_cell BK145.out 1).trans rfl
  have hcz66_2 : w11.cell? ⟨gb145, 2, none⟩ = some (.int .i64 a3_2) := (blk_cell BK145.out 2).trans rfl
  have hcz66_3 : w11.cell? ⟨gb145, 3, none⟩ = some (.slice A3_3 l3_3.length c3_3) := (blk_cell BK145.out 3).trans rfl
  have hcz66_4 : w11.cell? ⟨gb145, 4, none⟩ = some (.slice A3_4 l3_4.length c3_4) := (blk_cell BK145.out 4).trans rfl
  have hfz66_0 := blk_frozen BK145.out 0
  have hfz66_1 := blk_frozen BK145.out 1
  have hfz66_2 := blk_frozen BK145.out 2
  have hfz66_3 := blk_frozen BK145.out 3
  have hfz66_4 := blk_frozen BK145.out 4
  go_wp2
  go_meet
  case rel => exact ⟨_, (decide ((l3_4.length : Int) > 20)), (by first | rfl | (simp; done) | (simp [*]; done)), H', ⟨by first | omega | exact Nat.le_refl _⟩, ⟨by (with_reducible repeat (first | refine blk_drewN ?_ _ | refine blk_drew ?_ | refine blk_alloc ?_ _)); exact BK142.out⟩, ⟨by (with_reducible repeat (first | refine blk_drewN ?_ _ | refine blk_drew ?_ | refine blk_alloc ?_ _)); exact BK143.out⟩, ⟨by (with_reducible repeat (first | refine blk_drewN ?_ _ | refine blk_drew ?_ | refine blk_alloc ?_ _)); exact BK144.out⟩, ⟨by (with_reducible repeat (first | refine blk_drewN ?_ _ | refine blk_drew ?_ | refine blk_alloc ?_ _)); exact BK145.out⟩, ⟨by repeat (first | (with_reducible first | exact HB.out | apply below_alloc | apply pw_below_drewN | apply below_drew1 | refine below_set ?_ GE142.out | refine below_set ?_ GE143.out | refine below_set ?_ GE144.out | refine below_set ?_ GE145.out) | exact HB.out)⟩⟩
 case rest =>
  clear HC6
  try clear c1
  try clear c2
  try clear p2
  try clear c3
  try clear c4
  try clear c5
  try clear c6
  try clear c8
  try clear c12
  try clear c13
  try clear c13b0
  try clear c13b1
  try clear c14
  try clear c15
  try clear c16
  try clear c18
  try clear c18b0
  try clear c18b1
  try clear c19
  try clear c20
  try clear c21
  try clear c23
  try clear c24
  try clear c26
  try clear c26b0
  try clear c26b1
  try clear c27
  try clear c28
  try clear c29
  try clear c31
  try clear c32
  try clear c34
  try clear c36
  try clear c36b0
  try clear c36b1
  try clear c37
  try clear c38
  try clear c39
  try clear c41
  try clear c42
  try clear c44
  try clear c46
  try clear c46b0
  try clear c46b1
  try clear c47
  try clear c48
  try clear c49
  try clear c51
  try clear c52
  try clear c54
  try clear c57
  try clear c58
  try clear c59
  try clear c61
  try clear c62
  try clear c64
  try clear hcz17_0
  try clear hcz17_1
  try clear hcz17_2
  try clear hcz17_3
  try clear hcz17_4
  try clear hcz17_5
  try clear hcz17_6
  try clear hcz17_7
  try clear hcz17_8
  try clear hcz17_9
  try clear hcz22_0
  try clear hcz22_1
  try clear hcz22_2
  try clear hcz22_3
  try clear hcz22_4
  try clear hcz22_5
  try clear hcz22_6
  try clear hcz22_7
  try clear hcz22_8
  try clear hcz22_9
  try clear hcz25_0
  try clear hcz25_1
  try clear hcz25_2
  try clear hcz25_3
  try clear hcz25_4
  try clear hcz25_5
  try clear hcz25_6
  try clear hcz25_7
  try clear hcz25_8
  try clear hcz25_9
  try clear hcz30_0
  try clear hcz30_1
  try clear hcz30_2
  try clear hcz30_3
  try clear hcz30_4
  try clear hcz30_5
  try clear hcz30_6
  try clear hcz30_7
  try clear hcz30_8
  try clear hcz30_9
  try clear hcz33_0
  try clear hcz33_1
  try clear hcz33_2
  try clear hcz33_3
  try clear hcz33_4
  try clear hcz33_5
  try clear hcz33_6
  try clear hcz33_7
  try clear hcz33_8
  try clear hcz33_9
  try clear hcz35_0
  try clear hcz35_1
  try clear hcz35_2
  try clear hcz35_3
  try clear hcz35_4
  try clear hcz40_0
  try clear hcz40_1
  try clear hcz40_2
  try clear hcz40_3
  try clear hcz40_4
  try clear hcz40_5
  try clear hcz40_6
  try clear hcz40_7
  try clear hcz40_8
  try clear hcz40_9
  try clear hcz43_0
  try clear hcz43_1
  try clear hcz43_2
  try clear hcz43_3
  try clear hcz43_4
  try clear hcz43_5
  try clear hcz43_6
  try clear hcz43_7
  try clear hcz43_8
  try clear hcz43_9
  try clear hcz45_0
  try clear hcz45_1
  try clear hcz45_2
  try clear hcz45_3
  try clear hcz45_4
  try clear hcz50_0
  try clear hcz50_1
  try clear hcz50_2
  try clear hcz50_3
  try clear hcz50_4
  try clear hcz50_5
  try clear hcz50_6
  try clear hcz50_7
  try clear hcz50_8
  try clear hcz50_9
  try clear hcz53_0
  try clear hcz53_1
  try clear hcz53_2
  try clear hcz53_3
  try clear hcz53_4
  try clear hcz53_5
  try clear hcz53_6
  try clear hcz53_7
  try clear hcz53_8
  try clear hcz53_9
  try clear hcz55_0
  try clear hcz55_1
  try clear hcz55_2
  try clear hcz55_3
  try clear hcz55_4
  try clear hcz56_0
  try clear hcz56_1
  try clear hcz56_2
  try clear hcz56_3
  try clear hcz56_4
  try clear hcz60_0
  try clear hcz60_1
  try clear hcz60_2
  try clear hcz60_3
  try clear hcz60_4
  try clear hcz60_5
  try clear hcz60_6
  try clear hcz60_7
  try clear hcz60_8
  try clear hcz60_9
  try clear hcz63_0
  try clear hcz63_1
  try clear hcz63_2
  try clear hcz63_3
  try clear hcz63_4
  try clear hcz63_5
  try clear hcz63_6
  try clear hcz63_7
  try clear hcz63_8
  try clear hcz63_9
  try clear hcz65_0
  try clear hcz65_1
  try clear hcz65_2
  try clear hcz65_3
  try clear hcz65_4
  try clear hcz66_0
  try clear hcz66_1
  try clear hcz66_2
  try clear hcz66_3
  try clear hcz66_4
  try clear hfz17_0
  try clear hfz17_1
  try clear hfz17_2
  try clear hfz17_3
  try clear hfz17_4
  try clear hfz17_5
  try clear hfz17_6
  try clear hfz17_7
  try clear hfz17_8
  try clear hfz17_9
  try clear hfz22_0
  try clear hfz22_1
  try clear hfz22_2
  try clear hfz22_3
  try clear hfz22_4
  try clear hfz22_5
  try clear hfz22_6
  try clear hfz22_7
  try clear hfz22_8
  try clear hfz22_9
  try clear hfz25_0
  try clear hfz25_1
  try clear hfz25_2
  try clear hfz25_3
  try clear hfz25_4
  try clear hfz25_5
  try clear hfz25_6
  try clear hfz25_7
  try clear hfz25_8
  try clear hfz25_9
  try clear hfz30_0
  try clear hfz30_1
  try clear hfz30_2
  try clear hfz30_3
  try clear hfz30_4
  try clear hfz30_5
  try clear hfz30_6
  try clear hfz30_7
  try clear hfz30_8
  try clear hfz30_9
  try clear hfz33_0
  try clear hfz33_1
  try clear hfz33_2
  try clear hfz33_3
  try clear hfz33_4
  try clear hfz33_5
  try clear hfz33_6
  try clear hfz33_7
  try clear hfz33_8
  try clear hfz33_9
  try clear hfz35_0
  try clear hfz35_1
  try clear hfz35_2
  try clear hfz35_3
  try clear hfz35_4
  try clear hfz40_0
  try clear hfz40_1
  try clear hfz40_2
  try clear hfz40_3
  try clear hfz40_4
  try clear hfz40_5
  try clear hfz40_6
  try clear hfz40_7
  try clear hfz40_8
  try clear hfz40_9
  try clear hfz43_0
  try clear hfz43_1
  try clear hfz43_2
  try clear hfz43_3
  try clear hfz43_4
  try clear hfz43_5
  try clear hfz43_6
  try clear hfz43_7
  try clear hfz43_8
  try clear hfz43_9
  try clear hfz45_0
  try clear hfz45_1
  try clear hfz45_2
  try clear hfz45_3
  try clear hfz45_4
  try clear hfz50_0
  try clear hfz50_1
  try clear hfz50_2
  try clear hfz50_3
  try clear hfz50_4
  try clear hfz50_5
  try clear hfz50_6
  try clear hfz50_7
  try clear hfz50_8
  try clear hfz50_9
  try clear hfz53_0
  try clear hfz53_1
  try clear hfz53_2
  try clear hfz53_3
  try clear hfz53_4
  try clear hfz53_5
  try clear hfz53_6
  try clear hfz53_7
  try clear hfz53_8
  try clear hfz53_9
  try clear hfz55_0
  try clear hfz55_1
  try clear hfz55_2
  try clear hfz55_3
  try clear hfz55_4
  try clear hfz56_0
  try clear hfz56_1
  try clear hfz56_2
  try clear hfz56_3
  try clear hfz56_4
  try clear hfz60_0
  try clear hfz60_1
  try clear hfz60_2
  try clear hfz60_3
  try clear hfz60_4
  try clear hfz60_5
  try clear hfz60_6
  try clear hfz60_7
  try clear hfz60_8
  try clear hfz60_9
  try clear hfz63_0
  try clear hfz63_1
  try clear hfz63_2
  try clear hfz63_3
  try clear hfz63_4
  try clear hfz63_5
  try clear hfz63_6
  try clear hfz63_7
  try clear hfz63_8
  try clear hfz63_9
  try clear hfz65_0
  try clear hfz65_1
  try clear hfz65_2
  try clear hfz65_3
  try clear hfz65_4
  try clear hfz66_0
  try clear hfz66_1
  try clear hfz66_2
  try clear hfz66_3
  try clear hfz66_4
  obtain ⟨kq, x60_5, rfl, HA, HJ5, BK142, BK143, BK144, BK145, HB⟩ := hcut
  cases kq with
  | zero => exact absurd HA.out (by simp [quartermasterlaw21_ReqApart.j0])
  | succ kj5 =>
   have H := HA.out
   clear HA
   simp only [quartermasterlaw21_ReqApart.j0] at H
   by_cases c67 : x60_5 = true
   ·subst c67
    have H1 : (some t146) = some r := by rw [if_pos rfl] at H; exact H
    clear H
    have H := H1
    clear H1
    obtain rfl := Option.some.inj H
    go_wp2
    go_ret
    exact ⟨by first | rfl | (simp [errW_none, errW_some] <;> rfl) | (simp [*, errW_none, errW_some] <;> rfl), by repeat (first | (with_reducible first | exact HB.out | apply below_alloc | apply pw_below_drewN | apply below_drew1 | refine below_set ?_ GE142.out | refine below_set ?_ GE143.out | refine below_set ?_ GE144.out | refine below_set ?_ GE145.out) | exact HB.out)⟩
   replace c67 := Bool.eq_false_iff.mpr c67
   subst c67
   have H1 : ((req_Encode.f a0_0 a0_1 a0_2 a0_3 a0_4 a0_5 a0_6 a0_7 a0_8 l0_9).bind fun bt147 => ((req_Encode.f a1_0 a1_1 a1_2 a1_3 a1_4 a1_5 a1_6 a1_7 a1_8 l1_9).bind fun bt151 => (if bt147.2 = 0 then (quartermasterlaw21_ReqApart.j1 kj5 bt147.1 bt151.1 (bt151.2 == 0) a0_0 a0_1 a0_2 a0_3 a0_4 a0_5 a0_6 a0_7 a0_8 l0_9 a1_0 a1_1 a1_2 a1_3 a1_4 a1_5 a1_6 a1_7 a1_8 l1_9 a2_0 a2_1 a2_2 l2_3 l2_4 a3_0 a3_1 a3_2 l3_3 l3_4) else (quartermasterlaw21_ReqApart.j1 kj5 bt147.1 bt151.1 false a0_0 a0_1 a0_2 a0_3 a0_4 a0_5 a0_6 a0_7 a0_8 l0_9 a1_0 a1_1 a1_2 a1_3 a1_4 a1_5 a1_6 a1_7 a1_8 l1_9 a2_0 a2_1 a2_2 l2_3 l2_4 a3_0 a3_1 a3_2 l3_3 l3_4)))) = some r := by rw [if_neg (show ¬ (false = true) by decide)] at H; exact H
   clear H
   have H := H1
   clear H1
   replace H := Option.bind_eq_some_iff.mp H
   obtain ⟨⟨t147, t150⟩, A680, H⟩ := H
   replace H : ((req_Encode.f a1_0 a1_1 a1_2 a1_3 a1_4 a1_5 a1_6 a1_7 a1_8 l1_9).bind fun bt151 => (if t150 = 0 then (quartermasterlaw21_ReqApart.j1 kj5 t147 bt151.1 (bt151.2 == 0) a0_0 a0_1 a0_2 a0_3 a0_4 a0_5 a0_6 a0_7 a0_8 l0_9 a1_0 a1_1 a1_2 a1_3 a1_4 a1_5 a1_6 a1_7 a1_8 l1_9 a2_0 a2_1 a2_2 l2_3 l2_4 a3_0 a3_1 a3_2 l3_3 l3_4) else (quartermasterlaw21_ReqApart.j1 kj5 t147 bt151.1 false a0_0 a0_1 a0_2 a0_3 a0_4 a0_5 a0_6 a0_7 a0_8 l0_9 a1_0 a1_1 a1_2 a1_3 a1_4 a1_5 a1_6 a1_7 a1_8 l1_9 a2_0 a2_1 a2_2 l2_3 l2_4 a3_0 a3_1 a3_2 l3_3 l3_4))) = some r := H
   have A68 := Aside0.mk A680
   clear A680
   replace H := Option.bind_eq_some_iff.mp H
   obtain ⟨⟨t151, t154⟩, A690, H⟩ := H
   replace H : (if t150 = 0 then (quartermasterlaw21_ReqApart.j1 kj5 t147 t151 (t154 == 0) a0_0 a0_1 a0_2 a0_3 a0_4 a0_5 a0_6 a0_7 a0_8 l0_9 a1_0 a1_1 a1_2 a1_3 a1_4 a1_5 a1_6 a1_7 a1_8 l1_9 a2_0 a2_1 a2_2 l2_3 l2_4 a3_0 a3_1 a3_2 l3_3 l3_4) else (quartermasterlaw21_ReqApart.j1 kj5 t147 t151 false a0_0 a0_1 a0_2 a0_3 a0_4 a0_5 a0_6 a0_7 a0_8 l0_9 a1_0 a1_1 a1_2 a1_3 a1_4 a1_5 a1_6 a1_7 a1_8 l1_9 a2_0 a2_1 a2_2 l2_3 l2_4 a3_0 a3_1 a3_2 l3_3 l3_4)) = some r := H
   have A69 := Aside0.mk A690
   clear A690
   have HC70 := Aside0.mk H
   clear H
   have hnb71 := NB142_143.out
   have hnc71 := NB143_142.out
   have hnb72 := NB142_144.out
   have hnc72 := NB144_142.out
   have hnb73 := NB142_145.out
   have hnc73 := NB145_142.out
   have hcz74_0 : wc.cell? ⟨gb142, 0, none⟩ = some (.int .i64 a0_0) := (blk_cell BK142.out 0).trans rfl
   have hcz74_1 : wc.cell? ⟨gb142, 1, none⟩ = some (.int .i64 a0_1) := (blk_cell BK142.out 1).trans rfl
   have hcz74_2 : wc.cell? ⟨gb142, 2, none⟩ = some (.int .i64 a0_2) := (blk_cell BK142.out 2).trans rfl
   have hcz74_3 : wc.cell? ⟨gb142, 3, none⟩ = some (.int .i64 a0_3) := (blk_cell BK142.out 3).trans rfl
   have hcz74_4 : wc.cell? ⟨gb142, 4, none⟩ = some (.int .i64 a0_4) := (blk_cell BK142.out 4).trans rfl
   have hcz74_5 : wc.cell? ⟨gb142, 5, none⟩ = some (.int .i64 a0_5) := (blk_cell BK142.out 5).trans rfl
   have hcz74_6 : wc.cell? ⟨gb142, 6, none⟩ = some (.int .i64 a0_6) := (blk_cell BK142.out 6).trans rfl
   have hcz74_7 : wc.cell? ⟨gb142, 7, none⟩ = some (.int .i64 a0_7) := (blk_cell BK142.out 7).trans rfl
   have hcz74_8 : wc.cell? ⟨gb142, 8, none⟩ = some (.int .i64 a0_8) := (blk_cell BK142.out 8).trans rfl
   have hcz74_9 : wc.cell? ⟨gb142, 9, none⟩ = some (.slice A0_9 l0_9.length c0_9) := (blk_cell BK142.out 9).trans rfl
   have hfz74_0 := blk_frozen BK142.out 0
   have hfz74_1 := blk_frozen BK142.out 1
   have hfz74_2 := blk_frozen BK142.out 2
   have hfz74_3 := blk_frozen BK142.out 3
   have hfz74_4 := blk_frozen BK142.out 4
   have hfz74_5 := blk_frozen BK142.out 5
   have hfz74_6 := blk_frozen BK142.out 6
   have hfz74_7 := blk_frozen BK142.out 7
   have hfz74_8 := blk_frozen BK142.out 8
   have hfz74_9 := blk_frozen BK142.out 9
   go_upto_region 6 with (first | ((with_reducible refine gate_callee (f := 11) rfl ?_); refine goesL_ (some 64) rfl rfl Try.func11 (by kernel_rfl) rfl #[.agg #[.int .i64 a0_0, .int .i64 a0_1, .int .i64 a0_2, .int .i64 a0_3, .int .i64 a0_4, .int .i64 a0_5, .int .i64 a0_6, .int .i64 a0_7, .int .i64 a0_8, .slice A0_9 l0_9.length c0_9]] rfl (by (try simp only [List.map_toArray, List.map_cons, List.map_nil]); first | done | rfl | (simp only [List.length_drop, List.length_take]; rfl)) ?_; (with_reducible refine (req_Encode.calls a0_0 a0_1 a0_2 a0_3 a0_4 a0_5 a0_6 a0_7 a0_8 _ _ l0_9 t147 t150 _ ?side1 ?side2 A68.out).mono ?_); (case side1 => repeat (first | exact (Kd.C_below HR0_9.out HB.out) | (with_reducible refine Kd.C_alloc ?_ _) | (with_reducible refine Kd.C_drewN ?_ _) | (with_reducible refine Kd.C_drew ?_))); (case side2 => exact HC0_9.out); rintro e w75 ⟨v148, rfl, ho0, hb⟩; refine ⟨_, rfl, ?_⟩; have n0_ := Aside0.mk (Kd.R_lower ho0 (below_size (by repeat (first | (with_reducible first | exact HB.out | apply below_alloc | apply pw_below_drewN | apply below_drew1 | refine below_set ?_ GE142.out | refine below_set ?_ GE143.out | refine below_set ?_ GE144.out | refine below_set ?_ GE145.out) | exact HB.out)))); have n1_ := Aside0.mk (blk_below (g := gb142) (o := .cells #[.int .i64 a0_0, .int .i64 a0_1, .int .i64 a0_2, .int .i64 a0_3, .int .i64 a0_4, .int .i64 a0_5, .int .i64 a0_6, .int .i64 a0_7, .int .i64 a0_8, .slice A0_9 l0_9.length c0_9] 26 (0, 0)) (by (with_reducible repeat (first | refine blk_drewN ?_ _ | refine blk_drew ?_ | refine blk_alloc ?_ _)); exact BK142.out) hb); have n2_ := Aside0.mk (blk_below (g := gb143) (o := .cells #[.int .i64 a1_0, .int .i64 a1_1, .int .i64 a1_2, .int .i64 a1_3, .int .i64 a1_4, .int .i64 a1_5, .int .i64 a1_6, .int .i64 a1_7, .int .i64 a1_8, .slice A1_9 l1_9.length c1_9] 26 (0, 0)) (by (with_reducible repeat (first | refine blk_drewN ?_ _ | refine blk_drew ?_ | refine blk_alloc ?_ _)); exact BK143.out) hb); have n3_ := Aside0.mk (blk_below (g := gb144) (o := .cells #[.int .i64 a2_0, .int .i64 a2_1, .int .i64 a2_2, .slice A2_3 l2_3.length c2_3, .slice A2_4 l2_4.length c2_4] 38 (0, 0)) (by (with_reducible repeat (first | refine blk_drewN ?_ _ | refine blk_drew ?_ | refine blk_alloc ?_ _)); exact BK144.out) hb); have n4_ := Aside0.mk (blk_below (g := gb145) (o := .cells #[.int .i64 a3_0, .int .i64 a3_1, .int .i64 a3_2, .slice A3_3 l3_3.length c3_3, .slice A3_4 l3_4.length c3_4] 38 (0, 0)) (by (with_reducible repeat (first | refine blk_drewN ?_ _ | refine blk_drew ?_ | refine blk_alloc ?_ _)); exact BK145.out) hb); have n5_ := Aside0.mk (below_step (by repeat (first | (with_reducible first | exact HB.out | apply below_alloc | apply pw_below_drewN | apply below_drew1 | refine below_set ?_ GE142.out | refine below_set ?_ GE143.out | refine below_set ?_ GE144.out | refine below_set ?_ GE145.out) | exact HB.out)) hb); clear BK142; clear BK143; clear BK144; clear BK145; clear HB; have HO149 := n0_; have BK142 := n1_; have BK143 := n2_; have BK144 := n3_; have BK145 := n4_; have HB := n5_; clear n0_ n1_ n2_ n3_ n4_ n5_; (try clear hb); (try clear hb2); (try clear hk); (try clear hi); (try clear ho0); have hnb76 := NB143_144.out; have hnc76 := NB144_143.out; have hnb77 := NB143_145.out; have hnc77 := NB145_143.out; have hcz78_0 : w75.cell? ⟨gb143, 0, none⟩ = some (.int .i64 a1_0) := (blk_cell BK143.out 0).trans rfl; have hcz78_1 : w75.cell? ⟨gb143, 1, none⟩ = some (.int .i64 a1_1) := (blk_cell BK143.out 1).trans rfl; have hcz78_2 : w75.cell? ⟨gb143, 2, none⟩ = some (.int .i64 a1_2) := (blk_cell BK143.out 2).trans rfl; have hcz78_3 : w75.cell? ⟨gb143, 3, none⟩ = some (.int .i64 a1_3) := (blk_cell BK143.out 3).trans rfl; have hcz78_4 : w75.cell? ⟨gb143, 4, none⟩ = some (.int .i64 a1_4) := (blk_cell BK143.out 4).trans rfl; have hcz78_5 : w75.cell? ⟨gb143, 5, none⟩ = some (.int .i64 a1_5) := (blk_cell BK143.out 5).trans rfl; have hcz78_6 : w75.cell? ⟨gb143, 6, none⟩ = some (.int .i64 a1_6) := (blk_cell BK143.out 6).trans rfl; have hcz78_7 : w75.cell? ⟨gb143, 7, none⟩ = some (.int .i64 a1_7) := (blk_cell BK143.out 7).trans rfl; have hcz78_8 : w75.cell? ⟨gb143, 8, none⟩ = some (.int .i64 a1_8) := (blk_cell BK143.out 8).trans rfl; have hcz78_9 : w75.cell? ⟨gb143, 9, none⟩ = some (.slice A1_9 l1_9.length c1_9) := (blk_cell BK143.out 9).trans rfl; have hfz78_0 := blk_frozen BK143.out 0; have hfz78_1 := blk_frozen BK143.out 1; have hfz78_2 := blk_frozen BK143.out 2; have hfz78_3 := blk_frozen BK143.out 3; have hfz78_4 := blk_frozen BK143.out 4; have hfz78_5 := blk_frozen BK143.out 5; have hfz78_6 := blk_frozen BK143.out 6; have hfz78_7 := blk_frozen BK143.out 7; have hfz78_8 := blk_frozen BK143.out 8; have hfz78_9 := blk_frozen BK143.out 9) | ((with_reducible refine gate_callee (f := 11) rfl ?_); refine goesL_ (some 69) rfl rfl Try.func11 (by kernel_rfl) rfl #[.agg #[.int .i64 a1_0, .int .i64 a1_1, .int .i64 a1_2, .int .i64 a1_3, .int .i64 a1_4, .int .i64 a1_5, .int .i64 a1_6, .int .i64 a1_7, .int .i64 a1_8, .slice A1_9 l1_9.length c1_9]] rfl (by (try simp only [List.map_toArray, List.map_cons, List.map_nil]); first | done | rfl | (simp only [List.length_drop, List.length_take]; rfl)) ?_; (with_reducible refine (req_Encode.calls a1_0 a1_1 a1_2 a1_3 a1_4 a1_5 a1_6 a1_7 a1_8 _ _ l1_9 t151 t154 _ ?side1 ?side2 A69.out).mono ?_); (case side1 => repeat (first | exact (Kd.C_below HR1_9.out HB.out) | (with_reducible refine Kd.C_alloc ?_ _) | (with_reducible refine Kd.C_drewN ?_ _) | (with_reducible refine Kd.C_drew ?_))); (case side2 => exact HC1_9.out); rintro e w79 ⟨v152, rfl, ho0, hb⟩; refine ⟨_, rfl, ?_⟩; have n0_ := Aside0.mk (Kd.R_elder' (by (with_reducible repeat (first | apply Kd.R_alloc | apply Kd.R_drewN | apply Kd.R_drew)); exact HO149.out) (Kd.R_base ho0) hb); have n1_ := Aside0.mk (Kd.R_lower (Kd.R_new' ho0 (Kd.R_lt (by (with_reducible repeat (first | apply Kd.R_alloc | apply Kd.R_drewN | apply Kd.R_drew)); exact HO149.out))) (below_size (by repeat (first | (with_reducible first | exact HB.out | apply below_alloc | apply pw_below_drewN | apply below_drew1 | refine below_set ?_ GE142.out | refine below_set ?_ GE143.out | refine below_set ?_ GE144.out | refine below_set ?_ GE145.out) | exact HB.out)))); have n2_ := Aside0.mk (blk_below (g := gb142) (o := .cells #[.int .i64 a0_0, .int .i64 a0_1, .int .i64 a0_2, .int .i64 a0_3, .int .i64 a0_4, .int .i64 a0_5, .int .i64 a0_6, .int .i64 a0_7, .int .i64 a0_8, .slice A0_9 l0_9.length c0_9] 26 (0, 0)) (by (with_reducible repeat (first | refine blk_drewN ?_ _ | refine blk_drew ?_ | refine blk_alloc ?_ _)); exact BK142.out) hb); have n3_ := Aside0.mk (blk_below (g := gb143) (o := .cells #[.int .i64 a1_0, .int .i64 a1_1, .int .i64 a1_2, .int .i64 a1_3, .int .i64 a1_4, .int .i64 a1_5, .int .i64 a1_6, .int .i64 a1_7, .int .i64 a1_8, .slice A1_9 l1_9.length c1_9] 26 (0, 0)) (by (with_reducible repeat (first | refine blk_drewN ?_ _ | refine blk_drew ?_ | refine blk_alloc ?_ _)); exact BK143.out) hb); have n4_ := Aside0.mk (blk_below (g := gb144) (o := .cells #[.int .i64 a2_0, .int .i64 a2_1, .int .i64 a2_2, .slice A2_3 l2_3.length c2_3, .slice A2_4 l2_4.length c2_4] 38 (0, 0)) (by (with_reducible repeat (first | refine blk_drewN ?_ _ | refine blk_drew ?_ | refine blk_alloc ?_ _)); exact BK144.out) hb); have n5_ := Aside0.mk (blk_below (g := gb145) (o := .cells #[.int .i64 a3_0, .int .i64 a3_1, .int .i64 a3_2, .slice A3_3 l3_3.length c3_3, .slice A3_4 l3_4.length c3_4] 38 (0, 0)) (by (with_reducible repeat (first | refine blk_drewN ?_ _ | refine blk_drew ?_ | refine blk_alloc ?_ _)); exact BK145.out) hb); have n6_ := Aside0.mk (below_step (by repeat (first | (with_reducible first | exact HB.out | apply below_alloc | apply pw_below_drewN | apply below_drew1 | refine below_set ?_ GE142.out | refine below_set ?_ GE143.out | refine below_set ?_ GE144.out | refine below_set ?_ GE145.out) | exact HB.out)) hb); clear HO149; clear BK142; clear BK143; clear BK144; clear BK145; clear HB; have HO149 := n0_; have HO153 := n1_; have BK142 := n2_; have BK143 := n3_; have BK144 := n4_; have BK145 := n5_; have HB := n6_; clear n0_ n1_ n2_ n3_ n4_ n5_ n6_; (try clear hb); (try clear hb2); (try clear hk); (try clear hi); (try clear ho0)))
   (try simp only [Act.put, List.setIfInBounds_toArray, List.set_cons_zero, List.set_cons_succ])
   go_cut [77] (fun v77 wc => ∃ (kq : Nat) (x77_69 : Bool), v77 = .bool x77_69 ∧ Aside0 (quartermasterlaw21_ReqApart.j1 kq t147 t151 x77_69 a0_0 a0_1 a0_2 a0_3 a0_4 a0_5 a0_6 a0_7 a0_8 l0_9 a1_0 a1_1 a1_2 a1_3 a1_4 a1_5 a1_6 a1_7 a1_8 l1_9 a2_0 a2_1 a2_2 l2_3 l2_4 a3_0 a3_1 a3_2 l3_3 l3_4 = some r) ∧ Aside0 (kq ≤ kj5) ∧ Aside0 (Kd.R (Kd.int .u8) 5 wc w.heap.size (fun k_ => some k_ ≠ (v152 : Value).ownBlock) v148 t147) ∧ Aside0 (Kd.R (Kd.int .u8) 5 wc w.heap.size (fun k_ => some k_ ≠ (v148 : Value).ownBlock) v152 t151) ∧ Aside0 (wc.heap[gb142]? = some (.cells #[.int .i64 a0_0, .int .i64 a0_1, .int .i64 a0_2, .int .i64 a0_3, .int .i64 a0_4, .int .i64 a0_5, .int .i64 a0_6, .int .i64 a0_7, .int .i64 a0_8, (.slice A0_9 l0_9.length c0_9)] 26 (0, 0))) ∧ Aside0 (wc.heap[gb143]? = some (.cells #[.int .i64 a1_0, .int .i64 a1_1, .int .i64 a1_2, .int .i64 a1_3, .int .i64 a1_4, .int .i64 a1_5, .int .i64 a1_6, .int .i64 a1_7, .int .i64 a1_8, (.slice A1_9 l1_9.length c1_9)] 26 (0, 0))) ∧ Aside0 (wc.heap[gb144]? = some (.cells #[.int .i64 a2_0, .int .i64 a2_1, .int .i64 a2_2, (.slice A2_3 l2_3.length c2_3), (.slice A2_4 l2_4.length c2_4)] 38 (0, 0))) ∧ Aside0 (wc.heap[gb145]? = some (.cells #[.int .i64 a3_0, .int .i64 a3_1, .int .i64 a3_2, (.slice A3_3 l3_3.length c3_3), (.slice A3_4 l3_4.length c3_4)] 38 (0, 0))) ∧ Aside0 (Below w.heap.size w wc))
   case first =>
    have H := HC70.out
    clear HC70
    by_cases c80 : t150 = 0
    rotate_left
    ·rw [if_neg c80] at H
     have c80b0 : (t150 == 0) = false := beq_eq_false_iff_ne.mpr c80
     have c80b1 : (t150 != 0) = true := bne_iff_ne.mpr c80
     (first | rw [c80b0] | (simp only [i64_w, i32_w]; rw [c80b0]) | skip)
     have H' := Aside0.mk H
     clear H
     go_wp2
     go_meet
     case rel => exact ⟨_, (false), (by first | rfl | (simp; done) | (simp [*]; done)), H', ⟨by have := HJ5.out; first | omega | exact Nat.le_refl _⟩, ⟨by (with_reducible repeat (first | apply Kd.R_alloc | apply Kd.R_drewN | apply Kd.R_drew)); exact Kd.R_mono HO149.out (fun _ hk => hk.2)⟩, ⟨by (with_reducible repeat (first | apply Kd.R_alloc | apply Kd.R_drewN | apply Kd.R_drew)); exact Kd.R_mono HO153.out (fun _ hk => hk.2)⟩, ⟨by (with_reducible repeat (first | refine blk_drewN ?_ _ | refine blk_drew ?_ | refine blk_alloc ?_ _)); exact BK142.out⟩, ⟨by (with_reducible repeat (first | refine blk_drewN ?_ _ | refine blk_drew ?_ | refine blk_alloc ?_ _)); exact BK143.out⟩, ⟨by (with_reducible repeat (first | refine blk_drewN ?_ _ | refine blk_drew ?_ | refine blk_alloc ?_ _)); exact BK144.out⟩, ⟨by (with_reducible repeat (first | refine blk_drewN ?_ _ | refine blk_drew ?_ | refine blk_alloc ?_ _)); exact BK145.out⟩, ⟨by repeat (first | (with_reducible first | exact HB.out | apply below_alloc | apply pw_below_drewN | apply below_drew1 | refine below_set ?_ GE142.out | refine below_set ?_ GE143.out | refine below_set ?_ GE144.out | refine below_set ?_ GE145.out) | exact HB.out)⟩⟩
    rw [if_pos c80] at H
    have c80b0 : (t150 == 0) = true := beq_iff_eq.mpr c80
    have c80b1 : (t150 != 0) = false := bne_eq_false_iff_eq.mpr c80
    clear c80
    (first | rw [c80b0] | (simp only [i64_w, i32_w]; rw [c80b0]) | skip)
    have H' := Aside0.mk H
    clear H
    go_wp2
    go_meet
    case rel => exact ⟨_, ((t154 == 0)), (by first | rfl | (simp; done) | (simp [*]; done)), H', ⟨by have := HJ5.out; first | omega | exact Nat.le_refl _⟩, ⟨by (with_reducible repeat (first | apply Kd.R_alloc | apply Kd.R_drewN | apply Kd.R_drew)); exact Kd.R_mono HO149.out (fun _ hk => hk.2)⟩, ⟨by (with_reducible repeat (first | apply Kd.R_alloc | apply Kd.R_drewN | apply Kd.R_drew)); exact Kd.R_mono HO153.out (fun _ hk => hk.2)⟩, ⟨by (with_reducible repeat (first | refine blk_drewN ?_ _ | refine blk_drew ?_ | refine blk_alloc ?_ _)); exact BK142.out⟩, ⟨by (with_reducible repeat (first | refine blk_drewN ?_ _ | refine blk_drew ?_ | refine blk_alloc ?_ _)); exact BK143.out⟩, ⟨by (with_reducible repeat (first | refine blk_drewN ?_ _ | refine blk_drew ?_ | refine blk_alloc ?_ _)); exact BK144.out⟩, ⟨by (with_reducible repeat (first | refine blk_drewN ?_ _ | refine blk_drew ?_ | refine blk_alloc ?_ _)); exact BK145.out⟩, ⟨by repeat (first | (with_reducible first | exact HB.out | apply below_alloc | apply pw_below_drewN | apply below_drew1 | refine below_set ?_ GE142.out | refine below_set ?_ GE143.out | refine below_set ?_ GE144.out | refine below_set ?_ GE145.out) | exact HB.out)⟩⟩
   case rest =>
    clear HC70
    try clear c1
    try clear c2
    try clear p2
    try clear c3
    try clear c4
    try clear c5
    try clear c6
    try clear c7
    try clear c8
    try clear c11
    try clear c12
    try clear c13
    try clear c13b0
    try clear c13b1
    try clear c14
    try clear c15
    try clear c16
    try clear c18
    try clear c18b0
    try clear c18b1
    try clear c19
    try clear c20
    try clear c21
    try clear c23
    try clear c24
    try clear c26
    try clear c26b0
    try clear c26b1
    try clear c27
    try clear c28
    try clear c29
    try clear c31
    try clear c32
    try clear c34
    try clear c36
    try clear c36b0
    try clear c36b1
    try clear c37
    try clear c38
    try clear c39
    try clear c41
    try clear c42
    try clear c44
    try clear c46
    try clear c46b0
    try clear c46b1
    try clear c47
    try clear c48
    try clear c49
    try clear c51
    try clear c52
    try clear c54
    try clear c57
    try clear c58
    try clear c59
    try clear c61
    try clear c62
    try clear c64
    try clear c67
    try clear c71
    try clear c72
    try clear c73
    try clear c76
    try clear c77
    try clear c80
    try clear c80b0
    try clear c80b1
    try clear hcz17_0
    try clear hcz17_1
    try clear hcz17_2
    try clear hcz17_3
    try clear hcz17_4
    try clear hcz17_5
    try clear hcz17_6
    try clear hcz17_7
    try clear hcz17_8
    try clear hcz17_9
    try clear hcz22_0
    try clear hcz22_1
    try clear hcz22_2
    try clear hcz22_3
    try clear hcz22_4
    try clear hcz22_5
    try clear hcz22_6
    try clear hcz22_7
    try clear hcz22_8
    try clear hcz22_9
    try clear hcz25_0
    try clear hcz25_1
    try clear hcz25_2
    try clear hcz25_3
    try clear hcz25_4
    try clear hcz25_5
    try clear hcz25_6
    try clear hcz25_7
    try clear hcz25_8
    try clear hcz25_9
    try clear hcz30_0
    try clear hcz30_1
    try clear hcz30_2
    try clear hcz30_3
    try clear hcz30_4
    try clear hcz30_5
    try clear hcz30_6
    try clear hcz30_7
    try clear hcz30_8
    try clear hcz30_9
    try clear hcz33_0
    try clear hcz33_1
    try clear hcz33_2
    try clear hcz33_3
    try clear hcz33_4
    try clear hcz33_5
    try clear hcz33_6
    try clear hcz33_7
    try clear hcz33_8
    try clear hcz33_9
    try clear hcz35_0
    try clear hcz35_1
    try clear hcz35_2
    try clear hcz35_3
    try clear hcz35_4
    try clear hcz40_0
    try clear hcz40_1
    try clear hcz40_2
    try clear hcz40_3
    try clear hcz40_4
    try clear hcz40_5
    try clear hcz40_6
    try clear hcz40_7
    try clear hcz40_8
    try clear hcz40_9
    try clear hcz43_0
    try clear hcz43_1
    try clear hcz43_2
    try clear hcz43_3
    try clear hcz43_4
    try clear hcz43_5
    try clear hcz43_6
    try clear hcz43_7
    try clear hcz43_8
    try clear hcz43_9
    try clear hcz45_0
    try clear hcz45_1
    try clear hcz45_2
    try clear hcz45_3
    try clear hcz45_4
    try clear hcz50_0
    try clear hcz50_1
    try clear hcz50_2
    try clear hcz50_3
    try clear hcz50_4
    try clear hcz50_5
    try clear hcz50_6
    try clear hcz50_7
    try clear hcz50_8
    try clear hcz50_9
    try clear hcz53_0
    try clear hcz53_1
    try clear hcz53_2
    try clear hcz53_3
    try clear hcz53_4
    try clear hcz53_5
    try clear hcz53_6
    try clear hcz53_7
    try clear hcz53_8
    try clear hcz53_9
    try clear hcz55_0
    try clear hcz55_1
    try clear hcz55_2
    try clear hcz55_3
    try clear hcz55_4
    try clear hcz56_0
    try clear hcz56_1
    try clear hcz56_2
    try clear hcz56_3
    try clear hcz56_4
    try clear hcz60_0
    try clear hcz60_1
    try clear hcz60_2
    try clear hcz60_3
    try clear hcz60_4
    try clear hcz60_5
    try clear hcz60_6
    try clear hcz60_7
    try clear hcz60_8
    try clear hcz60_9
    try clear hcz63_0
    try clear hcz63_1
    try clear hcz63_2
    try clear hcz63_3
    try clear hcz63_4
    try clear hcz63_5
    try clear hcz63_6
    try clear hcz63_7
    try clear hcz63_8
    try clear hcz63_9
    try clear hcz65_0
    try clear hcz65_1
    try clear hcz65_2
    try clear hcz65_3
    try clear hcz65_4
    try clear hcz66_0
    try clear hcz66_1
    try clear hcz66_2
    try clear hcz66_3
    try clear hcz66_4
    try clear hcz74_0
    try clear hcz74_1
    try clear hcz74_2
    try clear hcz74_3
    try clear hcz74_4
    try clear hcz74_5
    try clear hcz74_6
    try clear hcz74_7
    try clear hcz74_8
    try clear hcz74_9
    try clear hcz78_0
    try clear hcz78_1
    try clear hcz78_2
    try clear hcz78_3
    try clear hcz78_4
    try clear hcz78_5
    try clear hcz78_6
    try clear hcz78_7
    try clear hcz78_8
    try clear hcz78_9
    try clear hfz17_0
    try clear hfz17_1
    try clear hfz17_2
    try clear hfz17_3
    try clear hfz17_4
    try clear hfz17_5
    try clear hfz17_6
    try clear hfz17_7
    try clear hfz17_8
    try clear hfz17_9
    try clear hfz22_0
    try clear hfz22_1
    try clear hfz22_2
    try clear hfz22_3
    try clear hfz22_4
    try clear hfz22_5
    try clear hfz22_6
    try clear hfz22_7
    try clear hfz22_8
    try clear hfz22_9
    try clear hfz25_0
    try clear hfz25_1
    try clear hfz25_2
    try clear hfz25_3
    try clear hfz25_4
    try clear hfz25_5
    try clear hfz25_6
    try clear hfz25_7
    try clear hfz25_8
    try clear hfz25_9
    try clear hfz30_0
    try clear hfz30_1
    try clear hfz30_2
    try clear hfz30_3
    try clear hfz30_4
    try clear hfz30_5
    try clear hfz30_6
    try clear hfz30_7
    try clear hfz30_8
    try clear hfz30_9
    try clear hfz33_0
    try clear hfz33_1
    try clear hfz33_2
    try clear hfz33_3
    try clear hfz33_4
    try clear hfz33_5
    try clear hfz33_6
    try clear hfz33_7
    try clear hfz33_8
    try clear hfz33_9
    try clear hfz35_0
    try clear hfz35_1
    try clear hfz35_2
    try clear hfz35_3
    try clear hfz35_4
    try clear hfz40_0
    try clear hfz40_1
    try clear hfz40_2
    try clear hfz40_3
    try clear hfz40_4
    try clear hfz40_5
    try clear hfz40_6
    try clear hfz40_7
    try clear hfz40_8
    try clear hfz40_9
    try clear hfz43_0
    try clear hfz43_1
    try clear hfz43_2
    try clear hfz43_3
    try clear hfz43_4
    try clear hfz43_5
    try clear hfz43_6
    try clear hfz43_7
    try clear hfz43_8
    try clear hfz43_9
    try clear hfz45_0
    try clear hfz45_1
    try clear hfz45_2
    try clear hfz45_3
    try clear hfz45_4
    try clear hfz50_0
    try clear hfz50_1
    try clear hfz50_2
    try clear hfz50_3
    try clear hfz50_4
    try clear hfz50_5
    try clear hfz50_6
    try clear hfz50_7
    try clear hfz50_8
    try clear hfz50_9
    try clear hfz53_0
    try clear hfz53_1
    try clear hfz53_2
    try clear hfz53_3
    try clear hfz53_4
    try clear hfz53_5
    try clear hfz53_6
    try clear hfz53_7
    try clear hfz53_8
    try clear hfz53_9
    try clear hfz55_0
    try clear hfz55_1
    try clear hfz55_2
    try clear hfz55_3
    try clear hfz55_4
    try clear hfz56_0
    try clear hfz56_1
    try clear hfz56_2
    try clear hfz56_3
    try clear hfz56_4
    try clear hfz60_0
    try clear hfz60_1
    try clear hfz60_2
    try clear hfz60_3
    try clear hfz60_4
    try clear hfz60_5
    try clear hfz60_6
    try clear hfz60_7
    try clear hfz60_8
    try clear hfz60_9
    try clear hfz63_0
    try clear hfz63_1
    try clear hfz63_2
    try clear hfz63_3
    try clear hfz63_4
    try clear hfz63_5
    try clear hfz63_6
    try clear hfz63_7
    try clear hfz63_8
    try clear hfz63_9
    try clear hfz65_0
    try clear hfz65_1
    try clear hfz65_2
    try clear hfz65_3
    try clear hfz65_4
    try clear hfz66_0
    try clear hfz66_1
    try clear hfz66_2
    try clear hfz66_3
    try clear hfz66_4
    try clear hfz74_0
    try clear hfz74_1
    try clear hfz74_2
    try clear hfz74_3
    try clear hfz74_4
    try clear hfz74_5
    try clear hfz74_6
    try clear hfz74_7
    try clear hfz74_8
    try clear hfz74_9
    try clear hfz78_0
    try clear hfz78_1
    try clear hfz78_2
    try clear hfz78_3
    try clear hfz78_4
    try clear hfz78_5
    try clear hfz78_6
    try clear hfz78_7
    try clear hfz78_8
    try clear hfz78_9
    try clear p2
    obtain ⟨kq, x77_69, rfl, HA, HJ69, HO_10, HO_12, BK142, BK143, BK144, BK145, HB⟩ := hcut
    cases kq with
    | zero => exact absurd HA.out (by simp [quartermasterlaw21_ReqApart.j1])
    | succ kj69 =>
     have H := HA.out
     clear HA
     simp only [quartermasterlaw21_ReqApart.j1] at H
     have HC81 := Aside0.mk H
     clear H
     go_upto_if 77 with (fail)
     go_cut [] (fun wc => ∃ (kq : Nat), Aside0 (quartermasterlaw21_ReqApart.j2 kq a2_0 a2_1 a2_2 l2_3 l2_4 a3_0 a3_1 a3_2 l3_3 l3_4 = some r) ∧ Aside0 (kq ≤ kj69) ∧ Aside0 (wc.heap[gb142]? = some (.cells #[.int .i64 a0_0, .int .i64 a0_1, .int .i64 a0_2, .int .i64 a0_3, .int .i64 a0_4, .int .i64 a0_5, .int .i64 a0_6, .int .i64 a0_7, .int .i64 a0_8, (.slice A0_9 l0_9.length c0_9)] 26 (0, 0))) ∧ Aside0 (wc.heap[gb143]? = some (.cells #[.int .i64 a1_0, .int .i64 a1_1, .int .i64 a1_2, .int .i64 a1_3, .int .i64 a1_4, .int .i64 a1_5, .int .i64 a1_6, .int .i64 a1_7, .int .i64 a1_8, (.slice A1_9 l1_9.length c1_9)] 26 (0, 0))) ∧ Aside0 (wc.heap[gb144]? = some (.cells #[.int .i64 a2_0, .int .i64 a2_1, .int .i64 a2_2, (.slice A2_3 l2_3.length c2_3), (.slice A2_4 l2_4.length c2_4)] 38 (0, 0))) ∧ Aside0 (wc.heap[gb145]? = some (.cells #[.int .i64 a3_0, .int .i64 a3_1, .int .i64 a3_2, (.slice A3_3 l3_3.length c3_3), (.slice A3_4 l3_4.length c3_4)] 38 (0, 0))) ∧ Aside0 (Below w.heap.size w wc))
     case first =>
      have H := HC81.out
      clear HC81
      by_cases c82 : x77_69 = true
      rotate_left
      ·replace c82 := Bool.eq_false_iff.mpr c82
       subst c82
       have H1 : (quartermasterlaw21_ReqApart.j2 kj69 a2_0 a2_1 a2_2 l2_3 l2_4 a3_0 a3_1 a3_2 l3_3 l3_4) = some r := by rw [if_neg (show ¬ (false = true) by decide)] at H; exact H
       clear H
       have H := H1
       clear H1
       have H' := Aside0.mk H
       clear H
       go_wp2
       go_meet
       case rel => exact ⟨_, H', ⟨by have := HJ5.out; have := HJ69.out; first | omega | exact Nat.le_refl _⟩, ⟨by (with_reducible repeat (first | refine blk_drewN ?_ _ | refine blk_drew ?_ | refine blk_alloc ?_ _)); exact BK142.out⟩, ⟨by (with_reducible repeat (first | refine blk_drewN ?_ _ | refine blk_drew ?_ | refine blk_alloc ?_ _)); exact BK143.out⟩, ⟨by (with_reducible repeat (first | refine blk_drewN ?_ _ | refine blk_drew ?_ | refine blk_alloc ?_ _)); exact BK144.out⟩, ⟨by (with_reducible repeat (first | refine blk_drewN ?_ _ | refine blk_drew ?_ | refine blk_alloc ?_ _)); exact BK145.out⟩, ⟨by repeat (first | (with_reducible first | exact HB.out | apply below_alloc | apply pw_below_drewN | apply below_drew1 | refine below_set ?_ GE142.out | refine below_set ?_ GE143.out | refine below_set ?_ GE144.out | refine below_set ?_ GE145.out) | exact HB.out)⟩⟩
      subst c82
      have H1 : ((Pa.quartermasterref21_Bytes.f kj69 t147 t151).bind fun t155 => ((Pa.quartermasterref21_Reqs.f kj69 a0_0 a0_1 a0_2 a0_3 a0_4 a0_5 a0_6 a0_7 a0_8 l0_9 a1_0 a1_1 a1_2 a1_3 a1_4 a1_5 a1_6 a1_7 a1_8 l1_9).bind fun t156 => (if (t155 != t156) = true then (none) else (quartermasterlaw21_ReqApart.j2 kj69 a2_0 a2_1 a2_2 l2_3 l2_4 a3_0 a3_1 a3_2 l3_3 l3_4)))) = some r := by rw [if_pos rfl] at H; exact H
      clear H
      have H := H1
      clear H1
      replace H := Option.bind_eq_some_iff.mp H
      obtain ⟨t155, A830, H⟩ := H
      replace H : ((Pa.quartermasterref21_Reqs.f kj69 a0_0 a0_1 a0_2 a0_3 a0_4 a0_5 a0_6 a0_7 a0_8 l0_9 a1_0 a1_1 a1_2 a1_3 a1_4 a1_5 a1_6 a1_7 a1_8 l1_9).bind fun t156 => (if (t155 != t156) = true then (none) else (quartermasterlaw21_ReqApart.j2 kj69 a2_0 a2_1 a2_2 l2_3 l2_4 a3_0 a3_1 a3_2 l3_3 l3_4))) = some r := H
      have A83 := Aside0.mk A830
      clear A830
      replace H := Option.bind_eq_some_iff.mp H
      obtain ⟨t156, A840, H⟩ := H
      replace H : (if (t155 != t156) = true then (none) else (quartermasterlaw21_ReqApart.j2 kj69 a2_0 a2_1 a2_2 l2_3 l2_4 a3_0 a3_1 a3_2 l3_3 l3_4)) = some r := H
      have A84 := Aside0.mk A840
      clear A840
      by_cases c85 : (t155 != t156) = true
      ·rw [if_pos c85] at H; exact absurd H (by simp)
      rw [if_neg c85] at H
      have c85b0 : (t155 != t156) = false := by simpa using c85
      (try (have c85b1 : decide (t155 = t156) = true := by simpa using c85))
      (try (have c85b2 : (t155 == t156) = true := by simpa using c85))
      clear c85
      (first | rw [c85b0] | (simp only [i64_w, i32_w]; rw [c85b0]) | skip)
      have H' := Aside0.mk H
      clear H
      obtain ⟨Ao96, co96, eo96⟩ := Kd.R_slice HO_10.out
      subst eo96
      obtain ⟨Ao97, co97, eo97⟩ := Kd.R_slice HO_12.out
      subst eo97
      go_wp2_with (first | ((with_reducible refine gate_callee (f := 12) rfl ?_); refine goesL_ (some 80) rfl rfl Try.func12 (by kernel_rfl) rfl #[.slice Ao96 t147.length co96, .slice Ao97 t151.length co97] rfl (by (try simp only [List.map_toArray, List.map_cons, List.map_nil]); first | done | rfl | (simp only [List.length_drop, List.length_take]; rfl)) ?_; (with_reducible refine (Pa.quartermasterref21_Bytes.calls kj69 _ _ t147 _ _ t151 t155 _ ?side1 ?side2 ?side3 ?side4 A83.out).mono ?_); (case side1 => repeat (first | exact (Kd.R_reads' HO_10.out).2.2 | (with_reducible refine Kd.C_alloc ?_ _) | (with_reducible refine Kd.C_drewN ?_ _) | (with_reducible refine Kd.C_drew ?_))); (case side2 => exact (Kd.R_reads' HO_10.out).2.1); (case side3 => repeat (first | exact (Kd.R_reads' HO_12.out).2.2 | (with_reducible refine Kd.C_alloc ?_ _) | (with_reducible refine Kd.C_drewN ?_ _) | (with_reducible refine Kd.C_drew ?_))); (case side4 => exact (Kd.R_reads' HO_12.out).2.1); rintro e w' ⟨rfl, ⟨nd, rfl⟩⟩; refine ⟨_, rfl, ?_⟩; have hnb98 := NB142_143.out; have hnc98 := NB143_142.out; have hnb99 := NB142_144.out; have hnc99 := NB144_142.out; have hnb100 := NB142_145.out; have hnc100 := NB145_142.out; have hcz101_0 : wc.cell? ⟨gb142, 0, none⟩ = some (.int .i64 a0_0) := (blk_cell BK142.out 0).trans rfl; have hcz101_1 : wc.cell? ⟨gb142, 1, none⟩ = some (.int .i64 a0_1) := (blk_cell BK142.out 1).trans rfl; have hcz101_2 : wc.cell? ⟨gb142, 2, none⟩ = some (.int .i64 a0_2) := (blk_cell BK142.out 2).trans rfl; have hcz101_3 : wc.cell? ⟨gb142, 3, none⟩ = some (.int .i64 a0_3) := (blk_cell BK142.out 3).trans rfl; have hcz101_4 : wc.cell? ⟨gb142, 4, none⟩ = some (.int .i64 a0_4) := (blk_cell BK142.out 4).trans rfl; have hcz101_5 : wc.cell? ⟨gb142, 5, none⟩ = some (.int .i64 a0_5) := (blk_cell BK142.out 5).trans rfl; have hcz101_6 : wc.cell? ⟨gb142, 6, none⟩ = some (.int .i64 a0_6) := (blk_cell BK142.out 6).trans rfl; have hcz101_7 : wc.cell? ⟨gb142, 7, none⟩ = some (.int .i64 a0_7) := (blk_cell BK142.out 7).trans rfl; have hcz101_8 : wc.cell? ⟨gb142, 8, none⟩ = some (.int .i64 a0_8) := (blk_cell BK142.out 8).trans rfl; have hcz101_9 : wc.cell? ⟨gb142, 9, none⟩ = some (.slice A0_9 l0_9.length c0_9) := (blk_cell BK142.out 9).trans rfl; have hfz101_0 := blk_frozen BK142.out 0; have hfz101_1 := blk_frozen BK142.out 1; have hfz101_2 := blk_frozen BK142.out 2; have hfz101_3 := blk_frozen BK142.out 3; have hfz101_4 := blk_frozen BK142.out 4; have hfz101_5 := blk_frozen BK142.out 5; have hfz101_6 := blk_frozen BK142.out 6; have hfz101_7 := blk_frozen BK142.out 7; have hfz101_8 := blk_frozen BK142.out 8; have hfz101_9 := blk_frozen BK142.out 9; have hnb102 := NB143_144.out; have hnc102 := NB144_143.out; have hnb103 := NB143_145.out; have hnc103 := NB145_143.out; have hcz104_0 : wc.cell? ⟨gb143, 0, none⟩ = some (.int .i64 a1_0) := (blk_cell BK143.out 0).trans rfl; have hcz104_1 : wc.cell? ⟨gb143, 1, none⟩ = some (.int .i64 a1_1) := (blk_cell BK143.out 1).trans rfl; have hcz104_2 : wc.cell? ⟨gb143, 2, none⟩ = some (.int .i64 a1_2) := (blk_cell BK143.out 2).trans rfl; have hcz104_3 : wc.cell? ⟨gb143, 3, none⟩ = some (.int .i64 a1_3) := (blk_cell BK143.out 3).trans rfl; have hcz104_4 : wc.cell? ⟨gb143, 4, none⟩ = some (.int .i64 a1_4) := (blk_cell BK143.out 4).trans rfl; have hcz104_5 : wc.cell? ⟨gb143, 5, none⟩ = some (.int .i64 a1_5) := (blk_cell BK143.out 5).trans rfl; have hcz104_6 : wc.cell? ⟨gb143, 6, none⟩ = some (.int .i64 a1_6) := (blk_cell BK143.out 6).trans rfl; have hcz104_7 : wc.cell? ⟨gb143, 7, none⟩ = some (.int .i64 a1_7) := (blk_cell BK143.out 7).trans rfl; have hcz104_8 : wc.cell? ⟨gb143, 8, none⟩ = some (.int .i64 a1_8) := (blk_cell BK143.out 8).trans rfl; have hcz104_9 : wc.cell? ⟨gb143, 9, none⟩ = some (.slice A1_9 l1_9.length c1_9) := (blk_cell BK143.out 9).trans rfl; have hfz104_0 := blk_frozen BK143.out 0; have hfz104_1 := blk_frozen BK143.out 1; have hfz104_2 := blk_frozen BK143.out 2; have hfz104_3 := blk_frozen BK143.out 3; have hfz104_4 := blk_frozen BK143.out 4; have hfz104_5 := blk_frozen BK143.out 5; have hfz104_6 := blk_frozen BK143.out 6; have hfz104_7 := blk_frozen BK143.out 7; have hfz104_8 := blk_frozen BK143.out 8; have hfz104_9 := blk_frozen BK143.out 9) | ((with_reducible refine gate_callee (f := 10) rfl ?_); refine goesL_ (some 83) rfl rfl Try.func10 (by kernel_rfl) rfl #[.agg #[.int .i64 a0_0, .int .i64 a0_1, .int .i64 a0_2, .int .i64 a0_3, .int .i64 a0_4, .int .i64 a0_5, .int .i64 a0_6, .int .i64 a0_7, .int .i64 a0_8, .slice A0_9 l0_9.length c0_9], .agg #[.int .i64 a1_0, .int .i64 a1_1, .int .i64 a1_2, .int .i64 a1_3, .int .i64 a1_4, .int .i64 a1_5, .int .i64 a1_6, .int .i64 a1_7, .int .i64 a1_8, .slice A1_9 l1_9.length c1_9]] rfl (by (try simp only [List.map_toArray, List.map_cons, List.map_nil]); first | done | rfl | (simp only [List.length_drop, List.length_take]; rfl)) ?_; (with_reducible refine (Pa.quartermasterref21_Reqs.calls kj69 a0_0 a0_1 a0_2 a0_3 a0_4 a0_5 a0_6 a0_7 a0_8 _ _ l0_9 a1_0 a1_1 a1_2 a1_3 a1_4 a1_5 a1_6 a1_7 a1_8 _ _ l1_9 t156 _ ?side1 ?side2 ?side3 ?side4 A84.out).mono ?_); (case side1 => repeat (first | exact (Kd.C_below HR0_9.out (by repeat (first | (with_reducible first | exact HB.out | apply below_alloc | apply pw_below_drewN | apply below_drew1 | refine below_set ?_ GE142.out | refine below_set ?_ GE143.out | refine below_set ?_ GE144.out | refine below_set ?_ GE145.out) | exact HB.out))) | (with_reducible refine Kd.C_alloc ?_ _) | (with_reducible refine Kd.C_drewN ?_ _) | (with_reducible refine Kd.C_drew ?_))); (case side2 => exact HC0_9.out); (case side3 => repeat (first | exact (Kd.C_below HR1_9.out (by repeat (first | (with_reducible first | exact HB.out | apply below_alloc | apply pw_below_drewN | apply below_drew1 | refine below_set ?_ GE142.out | refine below_set ?_ GE143.out | refine below_set ?_ GE144.out | refine below_set ?_ GE145.out) | exact HB.out))) | (with_reducible refine Kd.C_alloc ?_ _) | (with_reducible refine Kd.C_drewN ?_ _) | (with_reducible refine Kd.C_drew ?_))); (case side4 => exact HC1_9.out); rintro e w105 ⟨rfl, hb⟩; refine ⟨_, rfl, ?_⟩; have n0_ := Aside0.mk (Kd.R_below (by (with_reducible repeat (first | apply Kd.R_alloc | apply Kd.R_drewN | apply Kd.R_drew)); exact HO_10.out) hb); have n1_ := Aside0.mk (Kd.R_below (by (with_reducible repeat (first | apply Kd.R_alloc | apply Kd.R_drewN | apply Kd.R_drew)); exact HO_12.out) hb); have n2_ := Aside0.mk (blk_below (g := gb142) (o := .cells #[.int .i64 a0_0, .int .i64 a0_1, .int .i64 a0_2, .int .i64 a0_3, .int .i64 a0_4, .int .i64 a0_5, .int .i64 a0_6, .int .i64 a0_7, .int .i64 a0_8, .slice A0_9 l0_9.length c0_9] 26 (0, 0)) (by (with_reducible repeat (first | refine blk_drewN ?_ _ | refine blk_drew ?_ | refine blk_alloc ?_ _)); exact BK142.out) hb); have n3_ := Aside0.mk (blk_below (g := gb143) (o := .cells #[.int .i64 a1_0, .int .i64 a1_1, .int .i64 a1_2, .int .i64 a1_3, .int .i64 a1_4, .int .i64 a1_5, .int .i64 a1_6, .int .i64 a1_7, .int .i64 a1_8, .slice A1_9 l1_9.length c1_9] 26 (0, 0)) (by (with_reducible repeat (first | refine blk_drewN ?_ _ | refine blk_drew ?_ | refine blk_alloc ?_ _)); exact BK143.out) hb); have n4_ := Aside0.mk (blk_below (g := gb144) (o := .cells #[.int .i64 a2_0, .int .i64 a2_1, .int .i64 a2_2, .slice A2_3 l2_3.length c2_3, .slice A2_4 l2_4.length c2_4] 38 (0, 0)) (by (with_reducible repeat (first | refine blk_drewN ?_ _ | refine blk_drew ?_ | refine blk_alloc ?_ _)); exact BK144.out) hb); have n5_ := Aside0.mk (blk_below (g := gb145) (o := .cells #[.int .i64 a3_0, .int .i64 a3_1, .int .i64 a3_2, .slice A3_3 l3_3.length c3_3, .slice A3_4 l3_4.length c3_4] 38 (0, 0)) (by (with_reducible repeat (first | refine blk_drewN ?_ _ | refine blk_drew ?_ | refine blk_alloc ?_ _)); exact BK145.out) hb); have n6_ := Aside0.mk (below_step (by repeat (first | (with_reducible first | exact HB.out | apply below_alloc | apply pw_below_drewN | apply below_drew1 | refine below_set ?_ GE142.out | refine below_set ?_ GE143.out | refine below_set ?_ GE144.out | refine below_set ?_ GE145.out) | exact HB.out)) hb); clear HO_10; clear HO_12; clear BK142; clear BK143; clear BK144; clear BK145; clear HB; have HO_10 := n0_; have HO_12 := n1_; have BK142 := n2_; have BK143 := n3_; have BK144 := n4_; have BK145 := n5_; have HB := n6_; clear n0_ n1_ n2_ n3_ n4_ n5_ n6_; (try clear hb); (try clear hb2); (try clear hk); (try clear hi)))
      go_meet
      case rel => exact ⟨_, H', ⟨by have := HJ5.out; have := HJ69.out; first | omega | exact Nat.le_refl _⟩, ⟨by (with_reducible repeat (first | refine blk_drewN ?_ _ | refine blk_drew ?_ | refine blk_alloc ?_ _)); exact BK142.out⟩, ⟨by (with_reducible repeat (first | refine blk_drewN ?_ _ | refine blk_drew ?_ | refine blk_alloc ?_ _)); exact BK143.out⟩, ⟨by (with_reducible repeat (first | refine blk_drewN ?_ _ | refine blk_drew ?_ | refine blk_alloc ?_ _)); exact BK144.out⟩, ⟨by (with_reducible repeat (first | refine blk_drewN ?_ _ | refine blk_drew ?_ | refine blk_alloc ?_ _)); exact BK145.out⟩, ⟨by repeat (first | (with_reducible first | exact HB.out | apply below_alloc | apply pw_below_drewN | apply below_drew1 | refine below_set ?_ GE142.out | refine below_set ?_ GE143.out | refine below_set ?_ GE144.out | refine below_set ?_ GE145.out) | exact HB.out)⟩⟩
     case rest =>
      clear HC81
      try clear c1
      try clear c2
      try clear p2
      try clear c3
      try clear c4
      try clear c5
      try clear c6
      try clear c7
      try clear c8
      try clear c9
      try clear c10
      try clear c11
      try clear c12
      try clear c13
      try clear c13b0
      try clear c13b1
      try clear c14
      try clear c15
      try clear c16
      try clear c18
      try clear c18b0
      try clear c18b1
      try clear c19
      try clear c20
      try clear c21
      try clear c23
      try clear c24
      try clear c26
      try clear c26b0
      try clear c26b1
      try clear c27
      try clear c28
      try clear c29
      try clear c31
      try clear c32
      try clear c34
      try clear c36
      try clear c36b0
      try clear c36b1
      try clear c37
      try clear c38
      try clear c39
      try clear c41
      try clear c42
      try clear c44
      try clear c46
      try clear c46b0
      try clear c46b1
      try clear c47
      try clear c48
      try clear c49
      try clear c51
      try clear c52
      try clear c54
      try clear c57
      try clear c58
      try clear c59
      try clear c61
      try clear c62
      try clear c64
      try clear c67
      try clear c71
      try clear c72
      try clear c73
      try clear c76
      try clear c77
      try clear c80
      try clear c80b0
      try clear c80b1
      try clear c82
      try clear c85
      try clear c85b0
      try clear c85b1
      try clear c85b2
      try clear c88
      try clear c89
      try clear c90
      try clear c92
      try clear c93
      try clear c98
      try clear c99
      try clear c100
      try clear c102
      try clear c103
      try clear hcz101_0
      try clear hcz101_1
      try clear hcz101_2
      try clear hcz101_3
      try clear hcz101_4
      try clear hcz101_5
      try clear hcz101_6
      try clear hcz101_7
      try clear hcz101_8
      try clear hcz101_9
      try clear hcz104_0
      try clear hcz104_1
      try clear hcz104_2
      try clear hcz104_3
      try clear hcz104_4
      try clear hcz104_5
      try clear hcz104_6
      try clear hcz104_7
      try clear hcz104_8
      try clear hcz104_9
      try clear hcz17_0
      try clear hcz17_1
      try clear hcz17_2
      try clear hcz17_3
      try clear hcz17_4
      try clear hcz17_5
      try clear hcz17_6
      try clear hcz17_7
      try clear hcz17_8
      try clear hcz17_9
      try clear hcz22_0
      try clear hcz22_1
      try clear hcz22_2
      try clear hcz22_3
      try clear hcz22_4
      try clear hcz22_5
      try clear hcz22_6
      try clear hcz22_7
      try clear hcz22_8
      try clear hcz22_9
      try clear hcz25_0
      try clear hcz25_1
      try clear hcz25_2
      try clear hcz25_3
      try clear hcz25_4
      try clear hcz25_5
      try clear hcz25_6
      try clear hcz25_7
      try clear hcz25_8
      try clear hcz25_9
      try clear hcz30_0
      try clear hcz30_1
      try clear hcz30_2
      try clear hcz30_3
      try clear hcz30_4
      try clear hcz30_5
      try clear hcz30_6
      try clear hcz30_7
      try clear hcz30_8
      try clear hcz30_9
      try clear hcz33_0
      try clear hcz33_1
      try clear hcz33_2
      try clear hcz33_3
      try clear hcz33_4
      try clear hcz33_5
      try clear hcz33_6
      try clear hcz33_7
      try clear hcz33_8
      try clear hcz33_9
      try clear hcz35_0
      try clear hcz35_1
      try clear hcz35_2
      try clear hcz35_3
      try clear hcz35_4
      try clear hcz40_0
      try clear hcz40_1
      try clear hcz40_2
      try clear hcz40_3
      try clear hcz40_4
      try clear hcz40_5
      try clear hcz40_6
      try clear hcz40_7
      try clear hcz40_8
      try clear hcz40_9
      try clear hcz43_0
      try clear hcz43_1
      try clear hcz43_2
      try clear hcz43_3
      try clear hcz43_4
      try clear hcz43_5
      try clear hcz43_6
      try clear hcz43_7
      try clear hcz43_8
      try clear hcz43_9
      try clear hcz45_0
      try clear hcz45_1
      try clear hcz45_2
      try clear hcz45_3
      try clear hcz45_4
      try clear hcz50_0
      try clear hcz50_1
      try clear hcz50_2
      try clear hcz50_3
      try clear hcz50_4
      try clear hcz50_5
      try clear hcz50_6
      try clear hcz50_7
      try clear hcz50_8
      try clear hcz50_9
      try clear hcz53_0
      try clear hcz53_1
      try clear hcz53_2
      try clear hcz53_3
      try clear hcz53_4
      try clear hcz53_5
      try clear hcz53_6
      try clear hcz53_7
      try clear hcz53_8
      try clear hcz53_9
      try clear hcz55_0
      try clear hcz55_1
      try clear hcz55_2
      try clear hcz55_3
      try clear hcz55_4
      try clear hcz56_0
      try clear hcz56_1
      try clear hcz56_2
      try clear hcz56_3
      try clear hcz56_4
      try clear hcz60_0
      try clear hcz60_1
      try clear hcz60_2
      try clear hcz60_3
      try clear hcz60_4
      try clear hcz60_5
      try clear hcz60_6
      try clear hcz60_7
      try clear hcz60_8
      try clear hcz60_9
      try clear hcz63_0
      try clear hcz63_1
      try clear hcz63_2
      try clear hcz63_3
      try clear hcz63_4
      try clear hcz63_5
      try clear hcz63_6
      try clear hcz63_7
      try clear hcz63_8
      try clear hcz63_9
      try clear hcz65_0
      try clear hcz65_1
      try clear hcz65_2
      try clear hcz65_3
      try clear hcz65_4
      try clear hcz66_0
      try clear hcz66_1
      try clear hcz66_2
      try clear hcz66_3
      try clear hcz66_4
      try clear hcz74_0
      try clear hcz74_1
      try clear hcz74_2
      try clear hcz74_3
      try clear hcz74_4
      try clear hcz74_5
      try clear hcz74_6
      try clear hcz74_7
      try clear hcz74_8
      try clear hcz74_9
      try clear hcz78_0
      try clear hcz78_1
      try clear hcz78_2
      try clear hcz78_3
      try clear hcz78_4
      try clear hcz78_5
      try clear hcz78_6
      try clear hcz78_7
      try clear hcz78_8
      try clear hcz78_9
      try clear hcz91_0
      try clear hcz91_1
      try clear hcz91_2
      try clear hcz91_3
      try clear hcz91_4
      try clear hcz91_5
      try clear hcz91_6
      try clear hcz91_7
      try clear hcz91_8
      try clear hcz91_9
      try clear hcz94_0
      try clear hcz94_1
      try clear hcz94_2
      try clear hcz94_3
      try clear hcz94_4
      try clear hcz94_5
      try clear hcz94_6
      try clear hcz94_7
      try clear hcz94_8
      try clear hcz94_9
      try clear hfz101_0
      try clear hfz101_1
      try clear hfz101_2
      try clear hfz101_3
      try clear hfz101_4
      try clear hfz101_5
      try clear hfz101_6
      try clear hfz101_7
      try clear hfz101_8
      try clear hfz101_9
      try clear hfz104_0
      try clear hfz104_1
      try clear hfz104_2
      try clear hfz104_3
      try clear hfz104_4
      try clear hfz104_5
      try clear hfz104_6
      try clear hfz104_7
      try clear hfz104_8
      try clear hfz104_9
      try clear hfz17_0
      try clear hfz17_1
      try clear hfz17_2
      try clear hfz17_3
      try clear hfz17_4
      try clear hfz17_5
      try clear hfz17_6
      try clear hfz17_7
      try clear hfz17_8
      try clear hfz17_9
      try clear hfz22_0
      try clear hfz22_1
      try clear hfz22_2
      try clear hfz22_3
      try clear hfz22_4
      try clear hfz22_5
      try clear hfz22_6
      try clear hfz22_7
      try clear hfz22_8
      try clear hfz22_9
      try clear hfz25_0
      try clear hfz25_1
      try clear hfz25_2
      try clear hfz25_3
      try clear hfz25_4
      try clear hfz25_5
      try clear hfz25_6
      try clear hfz25_7
      try clear hfz25_8
      try clear hfz25_9
      try clear hfz30_0
      try clear hfz30_1
      try clear hfz30_2
      try clear hfz30_3
      try clear hfz30_4
      try clear hfz30_5
      try clear hfz30_6
      try clear hfz30_7
      try clear hfz30_8
      try clear hfz30_9
      try clear hfz33_0
      try clear hfz33_1
      try clear hfz33_2
      try clear hfz33_3
      try clear hfz33_4
      try clear hfz33_5
      try clear hfz33_6
      try clear hfz33_7
      try clear hfz33_8
      try clear hfz33_9
      try clear hfz35_0
      try clear hfz35_1
      try clear hfz35_2
      try clear hfz35_3
      try clear hfz35_4
      try clear hfz40_0
      try clear hfz40_1
      try clear hfz40_2
      try clear hfz40_3
      try clear hfz40_4
      try clear hfz40_5
      try clear hfz40_6
      try clear hfz40_7
      try clear hfz40_8
      try clear hfz40_9
      try clear hfz43_0
      try clear hfz43_1
      try clear hfz43_2
      try clear hfz43_3
      try clear hfz43_4
      try clear hfz43_5
      try clear hfz43_6
      try clear hfz43_7
      try clear hfz43_8
      try clear hfz43_9
      try clear hfz45_0
      try clear hfz45_1
      try clear hfz45_2
      try clear hfz45_3
      try clear hfz45_4
      try clear hfz50_0
      try clear hfz50_1
      try clear hfz50_2
      try clear hfz50_3
      try clear hfz50_4
      try clear hfz50_5
      try clear hfz50_6
      try clear hfz50_7
      try clear hfz50_8
      try clear hfz50_9
      try clear hfz53_0
      try clear hfz53_1
      try clear hfz53_2
      try clear hfz53_3
      try clear hfz53_4
      try clear hfz53_5
      try clear hfz53_6
      try clear hfz53_7
      try clear hfz53_8
      try clear hfz53_9
      try clear hfz55_0
      try clear hfz55_1
      try clear hfz55_2
      try clear hfz55_3
      try clear hfz55_4
      try clear hfz56_0
      try clear hfz56_1
      try clear hfz56_2
      try clear hfz56_3
      try clear hfz56_4
      try clear hfz60_0
      try clear hfz60_1
      try clear hfz60_2
      try clear hfz60_3
      try clear hfz60_4
      try clear hfz60_5
      try clear hfz60_6
      try clear hfz60_7
      try clear hfz60_8
      try clear hfz60_9
      try clear hfz63_0
      try clear hfz63_1
      try clear hfz63_2
      try clear hfz63_3
      try clear hfz63_4
      try clear hfz63_5
      try clear hfz63_6
      try clear hfz63_7
      try clear hfz63_8
      try clear hfz63_9
      try clear hfz65_0
      try clear hfz65_1
      try clear hfz65_2
      try clear hfz65_3
      try clear hfz65_4
      try clear hfz66_0
      try clear hfz66_1
      try clear hfz66_2
      try clear hfz66_3
      try clear hfz66_4
      try clear hfz74_0
      try clear hfz74_1
      try clear hfz74_2
      try clear hfz74_3
      try clear hfz74_4
      try clear hfz74_5
      try clear hfz74_6
      try clear hfz74_7
      try clear hfz74_8
      try clear hfz74_9
      try clear hfz78_0
      try clear hfz78_1
      try clear hfz78_2
      try clear hfz78_3
      try clear hfz78_4
      try clear hfz78_5
      try clear hfz78_6
      try clear hfz78_7
      try clear hfz78_8
      try clear hfz78_9
      try clear hfz91_0
      try clear hfz91_1
      try clear hfz91_2
      try clear hfz91_3
      try clear hfz91_4
      try clear hfz91_5
      try clear hfz91_6
      try clear hfz91_7
      try clear hfz91_8
      try clear hfz91_9
      try clear hfz94_0
      try clear hfz94_1
      try clear hfz94_2
      try clear hfz94_3
      try clear hfz94_4
      try clear hfz94_5
      try clear hfz94_6
      try clear hfz94_7
      try clear hfz94_8
      try clear hfz94_9
      try clear p2
      obtain ⟨kq, HA, HJ80, BK142, BK143, BK144, BK145, HB⟩ := hcut
      cases kq with
      | zero => exact absurd HA.out (by simp [quartermasterlaw21_ReqApart.j2])
      | succ kj80 =>
       have H := HA.out
       clear HA
       simp only [quartermasterlaw21_ReqApart.j2] at H
       replace H := Option.bind_eq_some_iff.mp H
       obtain ⟨⟨t157, t160⟩, A1060, H⟩ := H
       replace H : ((req_Answer.f a3_0 a3_1 a3_2 l3_3 l3_4).bind fun bt161 => (if t160 = 0 then (quartermasterlaw21_ReqApart.j3 kj80 t157 bt161.1 (bt161.2 != 0) a2_0 a2_1 a2_2 l2_3 l2_4 a3_0 a3_1 a3_2 l3_3 l3_4) else (quartermasterlaw21_ReqApart.j3 kj80 t157 bt161.1 true a2_0 a2_1 a2_2 l2_3 l2_4 a3_0 a3_1 a3_2 l3_3 l3_4))) = some r := H
       have A106 := Aside0.mk A1060
       clear A1060
       replace H := Option.bind_eq_some_iff.mp H
       obtain ⟨⟨t161, t164⟩, A1070, H⟩ := H
       replace H : (if t160 = 0 then (quartermasterlaw21_ReqApart.j3 kj80 t157 t161 (t164 != 0) a2_0 a2_1 a2_2 l2_3 l2_4 a3_0 a3_1 a3_2 l3_3 l3_4) else (quartermasterlaw21_ReqApart.j3 kj80 t157 t161 true a2_0 a2_1 a2_2 l2_3 l2_4 a3_0 a3_1 a3_2 l3_3 l3_4)) = some r := H
       have A107 := Aside0.mk A1070
       clear A1070
       have HC108 := Aside0.mk H
       clear H
       have hnb109 := NB144_142.out
       have hnc109 := NB142_144.out
       have hnb110 := NB144_143.out
       have hnc110 := NB143_144.out
       have hnb111 := NB144_145.out
       have hnc111 := NB145_144.out
       have hcz112_0 : wc.cell? ⟨gb144, 0, none⟩ = some (.int .i64 a2_0) := (blk_cell BK144.out 0).trans rfl
       have hcz112_1 : wc.cell? ⟨gb144, 1, none⟩ = some (.int .i64 a2_1) := (blk_cell BK144.out 1).trans rfl
       have hcz112_2 : wc.cell? ⟨gb144, 2, none⟩ = some (.int .i64 a2_2) := (blk_cell BK144.out 2).trans rfl
       have hcz112_3 : wc.cell? ⟨gb144, 3, none⟩ = some (.slice A2_3 l2_3.length c2_3) := (blk_cell BK144.out 3).trans rfl
       have hcz112_4 : wc.cell? ⟨gb144, 4, none⟩ = some (.slice A2_4 l2_4.length c2_4) := (blk_cell BK144.out 4).trans rfl
       have hfz112_0 := blk_frozen BK144.out 0
       have hfz112_1 := blk_frozen BK144.out 1
       have hfz112_2 := blk_frozen BK144.out 2
       have hfz112_3 := blk_frozen BK144.out 3
       have hfz112_4 := blk_frozen BK144.out 4
       go_upto_region 13 with (first | ((with_reducible refine gate_callee (f := 14) rfl ?_); refine goesL_ (some 89) rfl rfl Try.func14 (by kernel_rfl) rfl #[.agg #[.int .i64 a2_0, .int .i64 a2_1, .int .i64 a2_2, .slice A2_3 l2_3.length c2_3, .slice A2_4 l2_4.length c2_4]] rfl (by (try simp only [List.map_toArray, List.map_cons, List.map_nil]); first | done | rfl | (simp only [List.length_drop, List.length_take]; rfl)) ?_; (with_reducible refine (req_Answer.calls a2_0 a2_1 a2_2 _ _ l2_3 _ _ l2_4 t157 t160 _ ?side1 ?side2 ?side3 ?side4 A106.out).mono ?_); (case side1 => repeat (first | exact (Kd.C_below HR2_3.out HB.out) | (with_reducible refine Kd.C_alloc ?_ _) | (with_reducible refine Kd.C_drewN ?_ _) | (with_reducible refine Kd.C_drew ?_))); (case side2 => exact HC2_3.out); (case side3 => repeat (first | exact (Kd.C_below HR2_4.out HB.out) | (with_reducible refine Kd.C_alloc ?_ _) | (with_reducible refine Kd.C_drewN ?_ _) | (with_reducible refine Kd.C_drew ?_))); (case side4 => exact HC2_4.out); rintro e w113 ⟨v158, rfl, ho0, hb⟩; refine ⟨_, rfl, ?_⟩; have n0_ := Aside0.mk (Kd.R_lower ho0 (below_size (by repeat (first | (with_reducible first | exact HB.out | apply below_alloc | apply pw_below_drewN | apply below_drew1 | refine below_set ?_ GE142.out | refine below_set ?_ GE143.out | refine below_set ?_ GE144.out | refine below_set ?_ GE145.out) | exact HB.out)))); have n1_ := Aside0.mk (blk_below (g := gb142) (o := .cells #[.int .i64 a0_0, .int .i64 a0_1, .int .i64 a0_2, .int .i64 a0_3, .int .i64 a0_4, .int .i64 a0_5, .int .i64 a0_6, .int .i64 a0_7, .int .i64 a0_8, .slice A0_9 l0_9.length c0_9] 26 (0, 0)) (by (with_reducible repeat (first | refine blk_drewN ?_ _ | refine blk_drew ?_ | refine blk_alloc ?_ _)); exact BK142.out) hb); have n2_ := Aside0.mk (blk_below (g := gb143) (o := .cells #[.int .i64 a1_0, .int .i64 a1_1, .int .i64 a1_2, .int .i64 a1_3, .int .i64 a1_4, .int .i64 a1_5, .int .i64 a1_6, .int .i64 a1_7, .int .i64 a1_8, .slice A1_9 l1_9.length c1_9] 26 (0, 0)) (by (with_reducible repeat (first | refine blk_drewN ?_ _ | refine blk_drew ?_ | refine blk_alloc ?_ _)); exact BK143.out) hb); have n3_ := Aside0.mk (blk_below (g := gb144) (o := .cells #[.int .i64 a2_0, .int .i64 a2_1, .int .i64 a2_2, .slice A2_3 l2_3.length c2_3, .slice A2_4 l2_4.length c2_4] 38 (0, 0)) (by (with_reducible repeat (first | refine blk_drewN ?_ _ | refine blk_drew ?_ | refine blk_alloc ?_ _)); exact BK144.out) hb); have n4_ := Aside0.mk (blk_below (g := gb145) (o := .cells #[.int .i64 a3_0, .int .i64 a3_1, .int .i64 a3_2, .slice A3_3 l3_3.length c3_3, .slice A3_4 l3_4.length c3_4] 38 (0, 0)) (by (with_reducible repeat (first | refine blk_drewN ?_ _ | refine blk_drew ?_ | refine blk_alloc ?_ _)); exact BK145.out) hb); have n5_ := Aside0.mk (below_step (by repeat (first | (with_reducible first | exact HB.out | apply below_alloc | apply pw_below_drewN | apply below_drew1 | refine below_set ?_ GE142.out | refine below_set ?_ GE143.out | refine below_set ?_ GE144.out | refine below_set ?_ GE145.out) | exact HB.out)) hb); clear BK142; clear BK143; clear BK144; clear BK145; clear HB; have HO159 := n0_; have BK142 := n1_; have BK143 := n2_; have BK144 := n3_; have BK145 := n4_; have HB := n5_; clear n0_ n1_ n2_ n3_ n4_ n5_; (try clear hb); (try clear hb2); (try clear hk); (try clear hi); (try clear ho0); have hnb114 := NB145_142.out; have hnc114 := NB142_145.out; have hnb115 := NB145_143.out; have hnc115 := NB143_145.out; have hcz116_0 : w113.cell? ⟨gb145, 0, none⟩ = some (.int .i64 a3_0) := (blk_cell BK145.out 0).trans rfl; have hcz116_1 : w113.cell? ⟨gb145, 1, none⟩ = some (.int .i64 a3_1) := (blk_cell BK145.out 1).trans rfl; have hcz116_2 : w113.cell? ⟨gb145, 2, none⟩ = some (.int .i64 a3_2) := (blk_cell BK145.out 2).trans rfl; have hcz116_3 : w113.cell? ⟨gb145, 3, none⟩ = some (.slice A3_3 l3_3.length c3_3) := (blk_cell BK145.out 3).trans rfl; have hcz116_4 : w113.cell? ⟨gb145, 4, none⟩ = some (.slice A3_4 l3_4.length c3_4) := (blk_cell BK145.out 4).trans rfl; have hfz116_0 := blk_frozen BK145.out 0; have hfz116_1 := blk_frozen BK145.out 1; have hfz116_2 := blk_frozen BK145.out 2; have hfz116_3 := blk_frozen BK145.out 3; have hfz116_4 := blk_frozen BK145.out 4) | ((with_reducible refine gate_callee (f := 14) rfl ?_); refine goesL_ (some 94) rfl rfl Try.func14 (by kernel_rfl) rfl #[.agg #[.int .i64 a3_0, .int .i64 a3_1, .int .i64 a3_2, .slice A3_3 l3_3.length c3_3, .slice A3_4 l3_4.length c3_4]] rfl (by (try simp only [List.map_toArray, List.map_cons, List.map_nil]); first | done | rfl | (simp only [List.length_drop, List.length_take]; rfl)) ?_; (with_reducible refine (req_Answer.calls a3_0 a3_1 a3_2 _ _ l3_3 _ _ l3_4 t161 t164 _ ?side1 ?side2 ?side3 ?side4 A107.out).mono ?_); (case side1 => repeat (first | exact (Kd.C_below HR3_3.out HB.out) | (with_reducible refine Kd.C_alloc ?_ _) | (with_reducible refine Kd.C_drewN ?_ _) | (with_reducible refine Kd.C_drew ?_))); (case side2 => exact HC3_3.out); (case side3 => repeat (first | exact (Kd.C_below HR3_4.out HB.out) | (with_reducible refine Kd.C_alloc ?_ _) | (with_reducible refine Kd.C_drewN ?_ _) | (with_reducible refine Kd.C_drew ?_))); (case side4 => exact HC3_4.out); rintro e w117 ⟨v162, rfl, ho0, hb⟩; refine ⟨_, rfl, ?_⟩; have n0_ := Aside0.mk (Kd.R_elder' (by (with_reducible repeat (first | apply Kd.R_alloc | apply Kd.R_drewN | apply Kd.R_drew)); exact HO159.out) (Kd.R_base ho0) hb); have n1_ := Aside0.mk (Kd.R_lower (Kd.R_new' ho0 (Kd.R_lt (by (with_reducible repeat (first | apply Kd.R_alloc | apply Kd.R_drewN | apply Kd.R_drew)); exact HO159.out))) (below_size (by repeat (first | (with_reducible first | exact HB.out | apply below_alloc | apply pw_below_drewN | apply below_drew1 | refine below_set ?_ GE142.out | refine below_set ?_ GE143.out | refine below_set ?_ GE144.out | refine below_set ?_ GE145.out) | exact HB.out)))); have n2_ := Aside0.mk (blk_below (g := gb142) (o := .cells #[.int .i64 a0_0, .int .i64 a0_1, .int .i64 a0_2, .int .i64 a0_3, .int .i64 a0_4, .int .i64 a0_5, .int .i64 a0_6, .int .i64 a0_7, .int .i64 a0_8, .slice A0_9 l0_9.length c0_9] 26 (0, 0)) (by (with_reducible repeat (first | refine blk_drewN ?_ _ | refine blk_drew ?_ | refine blk_alloc ?_ _)); exact BK142.out) hb); have n3_ := Aside0.mk (blk_below (g := gb143) (o := .cells #[.int .i64 a1_0, .int .i64 a1_1, .int .i64 a1_2, .int .i64 a1_3, .int .i64 a1_4, .int .i64 a1_5, .int .i64 a1_6, .int .i64 a1_7, .int .i64 a1_8, .slice A1_9 l1_9.length c1_9] 26 (0, 0)) (by (with_reducible repeat (first | refine blk_drewN ?_ _ | refine blk_drew ?_ | refine blk_alloc ?_ _)); exact BK143.out) hb); have n4_ := Aside0.mk (blk_below (g := gb144) (o := .cells #[.int .i64 a2_0, .int .i64 a2_1, .int .i64 a2_2, .slice A2_3 l2_3.length c2_3, .slice A2_4 l2_4.length c2_4] 38 (0, 0)) (by (with_reducible repeat (first | refine blk_drewN ?_ _ | refine blk_drew ?_ | refine blk_alloc ?_ _)); exact BK144.out) hb); have n5_ := Aside0.mk (blk_below (g := gb145) (o := .cells #[.int .i64 a3_0, .int .i64 a3_1, .int .i64 a3_2, .slice A3_3 l3_3.length c3_3, .slice A3_4 l3_4.length c3_4] 38 (0, 0)) (by (with_reducible repeat (first | refine blk_drewN ?_ _ | refine blk_drew ?_ | refine blk_alloc ?_ _)); exact BK145.out) hb); have n6_ := Aside0.mk (below_step (by repeat (first | (with_reducible first | exact HB.out | apply below_alloc | apply pw_below_drewN | apply below_drew1 | refine below_set ?_ GE142.out | refine below_set ?_ GE143.out | refine below_set ?_ GE144.out | refine below_set ?_ GE145.out) | exact HB.out)) hb); clear HO159; clear BK142; clear BK143; clear BK144; clear BK145; clear HB; have HO159 := n0_; have HO163 := n1_; have BK142 := n2_; have BK143 := n3_; have BK144 := n4_; have BK145 := n5_; have HB := n6_; clear n0_ n1_ n2_ n3_ n4_ n5_ n6_; (try clear hb); (try clear hb2); (try clear hk); (try clear hi); (try clear ho0)))
       (try simp only [Act.put, List.setIfInBounds_toArray, List.set_cons_zero, List.set_cons_succ])
       go_cut [102] (fun v102 wc => ∃ (kq : Nat) (x102_107 : Bool), v102 = .bool x102_107 ∧ Aside0 (quartermasterlaw21_ReqApart.j3 kq t157 t161 x102_107 a2_0 a2_1 a2_2 l2_3 l2_4 a3_0 a3_1 a3_2 l3_3 l3_4 = some r) ∧ Aside0 (kq ≤ kj80) ∧ Aside0 (Kd.R (Kd.int .u8) 5 wc w.heap.size (fun k_ => some k_ ≠ (v162 : Value).ownBlock) v158 t157) ∧ Aside0 (Kd.R (Kd.int .u8) 5 wc w.heap.size (fun k_ => some k_ ≠ (v158 : Value).ownBlock) v162 t161) ∧ Aside0 (wc.heap[gb142]? = some (.cells #[.int .i64 a0_0, .int .i64 a0_1, .int .i64 a0_2, .int .i64 a0_3, .int .i64 a0_4, .int .i64 a0_5, .int .i64 a0_6, .int .i64 a0_7, .int .i64 a0_8, (.slice A0_9 l0_9.length c0_9)] 26 (0, 0))) ∧ Aside0 (wc.heap[gb143]? = some (.cells #[.int .i64 a1_0, .int .i64 a1_1, .int .i64 a1_2, .int .i64 a1_3, .int .i64 a1_4, .int .i64 a1_5, .int .i64 a1_6, .int .i64 a1_7, .int .i64 a1_8, (.slice A1_9 l1_9.length c1_9)] 26 (0, 0))) ∧ Aside0 (wc.heap[gb144]? = some (.cells #[.int .i64 a2_0, .int .i64 a2_1, .int .i64 a2_2, (.slice A2_3 l2_3.length c2_3), (.slice A2_4 l2_4.length c2_4)] 38 (0, 0))) ∧ Aside0 (wc.heap[gb145]? = some (.cells #[.int .i64 a3_0, .int .i64 a3_1, .int .i64 a3_2, (.slice A3_3 l3_3.length c3_3), (.slice A3_4 l3_4.length c3_4)] 38 (0, 0))) ∧ Aside0 (Below w.heap.size w wc))
       case first =>
        have H := HC108.out
        clear HC108
        by_cases c118 : t160 = 0
        rotate_left
        ·rw [if_neg c118] at H
         have c118b0 : (t160 == 0) = false := beq_eq_false_iff_ne.mpr c118
         have c118b1 : (t160 != 0) = true := bne_iff_ne.mpr c118
         (first | rw [c118b0] | (simp only [i64_w, i32_w]; rw [c118b0]) | skip)
         have H' := Aside0.mk H
         clear H
         go_wp2
         go_meet
         case rel => exact ⟨_, (true), (by first | rfl | (simp; done) | (simp [*]; done)), H', ⟨by have := HJ5.out; have := HJ69.out; have := HJ80.out; first | omega | exact Nat.le_refl _⟩, ⟨by (with_reducible repeat (first | apply Kd.R_alloc | apply Kd.R_drewN | apply Kd.R_drew)); exact Kd.R_mono HO159.out (fun _ hk => hk.2)⟩, ⟨by (with_reducible repeat (first | apply Kd.R_alloc | apply Kd.R_drewN | apply Kd.R_drew)); exact Kd.R_mono HO163.out (fun _ hk => hk.2)⟩, ⟨by (with_reducible repeat (first | refine blk_drewN ?_ _ | refine blk_drew ?_ | refine blk_alloc ?_ _)); exact BK142.out⟩, ⟨by (with_reducible repeat (first | refine blk_drewN ?_ _ | refine blk_drew ?_ | refine blk_alloc ?_ _)); exact BK143.out⟩, ⟨by (with_reducible repeat (first | refine blk_drewN ?_ _ | refine blk_drew ?_ | refine blk_alloc ?_ _)); exact BK144.out⟩, ⟨by (with_reducible repeat (first | refine blk_drewN ?_ _ | refine blk_drew ?_ | refine blk_alloc ?_ _)); exact BK145.out⟩, ⟨by repeat (first | (with_reducible first | exact HB.out | apply below_alloc | apply pw_below_drewN | apply below_drew1 | refine below_set ?_ GE142.out | refine below_set ?_ GE143.out | refine below_set ?_ GE144.out | refine below_set ?_ GE145.out) | exact HB.out)⟩⟩
        rw [if_pos c118] at H
        have c118b0 : (t160 == 0) = true := beq_iff_eq.mpr c118
        have c118b1 : (t160 != 0) = false := bne_eq_false_iff_eq.mpr c118
        clear c118
        (first | rw [c118b0] | (simp only [i64_w, i32_w]; rw [c118b0]) | skip)
        have H' := Aside0.mk H
        clear H
        go_wp2
        go_meet
        case rel => exact ⟨_, ((t164 != 0)), (by first | rfl | (simp; done) | (simp [*]; done)), H', ⟨by have := HJ5.out; have := HJ69.out; have := HJ80.out; first | omega | exact Nat.le_refl _⟩, ⟨by (with_reducible repeat (first | apply Kd.R_alloc | apply Kd.R_drewN | apply Kd.R_drew)); exact Kd.R_mono HO159.out (fun _ hk => hk.2)⟩, ⟨by (with_reducible repeat (first | apply Kd.R_alloc | apply Kd.R_drewN | apply Kd.R_drew)); exact Kd.R_mono HO163.out (fun _ hk => hk.2)⟩, ⟨by (with_reducible repeat (first | refine blk_drewN ?_ _ | refine blk_drew ?_ | refine blk_alloc ?_ _)); exact BK142.out⟩, ⟨by (with_reducible repeat (first | refine blk_drewN ?_ _ | refine blk_drew ?_ | refine blk_alloc ?_ _)); exact BK143.out⟩, ⟨by (with_reducible repeat (first | refine blk_drewN ?_ _ | refine blk_drew ?_ | refine blk_alloc ?_ _)); exact BK144.out⟩, ⟨by (with_reducible repeat (first | refine blk_drewN ?_ _ | refine blk_drew ?_ | refine blk_alloc ?_ _)); exact BK145.out⟩, ⟨by repeat (first | (with_reducible first | exact HB.out | apply below_alloc | apply pw_below_drewN | apply below_drew1 | refine below_set ?_ GE142.out | refine below_set ?_ GE143.out | refine below_set ?_ GE144.out | refine below_set ?_ GE145.out) | exact HB.out)⟩⟩
       case rest =>
        clear HC108
        try clear c1
        try clear c2
        try clear p2
        try clear c3
        try clear c4
        try clear c5
        try clear c6
        try clear c7
        try clear c8
        try clear c9
        try clear c10
        try clear c11
        try clear c12
        try clear c13
        try clear c13b0
        try clear c13b1
        try clear c14
        try clear c15
        try clear c16
        try clear c18
        try clear c18b0
        try clear c18b1
        try clear c19
        try clear c20
        try clear c21
        try clear c23
        try clear c24
        try clear c26
        try clear c26b0
        try clear c26b1
        try clear c27
        try clear c28
        try clear c29
        try clear c31
        try clear c32
        try clear c34
        try clear c36
        try clear c36b0
        try clear c36b1
        try clear c37
        try clear c38
        try clear c39
        try clear c41
        try clear c42
        try clear c44
        try clear c46
        try clear c46b0
        try clear c46b1
        try clear c47
        try clear c48
        try clear c49
        try clear c51
        try clear c52
        try clear c54
        try clear c57
        try clear c58
        try clear c59
        try clear c61
        try clear c62
        try clear c64
        try clear c67
        try clear c71
        try clear c72
        try clear c73
        try clear c76
        try clear c77
        try clear c80
        try clear c80b0
        try clear c80b1
        try clear c82
        try clear c85
        try clear c85b0
        try clear c85b1
        try clear c85b2
        try clear c88
        try clear c89
        try clear c90
        try clear c92
        try clear c93
        try clear c98
        try clear c99
        try clear c100
        try clear c102
        try clear c103
        try clear c109
        try clear c110
        try clear c111
        try clear c114
        try clear c115
        try clear c118
        try clear c118b0
        try clear c118b1
        try clear hcz101_0
        try clear hcz101_1
        try clear hcz101_2
        try clear hcz101_3
        try clear hcz101_4
        try clear hcz101_5
        try clear hcz101_6
        try clear hcz101_7
        try clear hcz101_8
        try clear hcz101_9
        try clear hcz104_0
        try clear hcz104_1
        try clear hcz104_2
        try clear hcz104_3
        try clear hcz104_4
        try clear hcz104_5
        try clear hcz104_6
        try clear hcz104_7
        try clear hcz104_8
        try clear hcz104_9
        try clear hcz112_0
        try clear hcz112_1
        try clear hcz112_2
        try clear hcz112_3
        try clear hcz112_4
        try clear hcz116_0
        try clear hcz116_1
        try clear hcz116_2
        try clear hcz116_3
        try clear hcz116_4
        try clear hcz17_0
        try clear hcz17_1
        try clear hcz17_2
        try clear hcz17_3
        try clear hcz17_4
        try clear hcz17_5
        try clear hcz17_6
        try clear hcz17_7
        try clear hcz17_8
        try clear hcz17_9
        try clear hcz22_0
        try clear hcz22_1
        try clear hcz22_2
        try clear hcz22_3
        try clear hcz22_4
        try clear hcz22_5
        try clear hcz22_6
        try clear hcz22_7
        try clear hcz22_8
        try clear hcz22_9
        try clear hcz25_0
        try clear hcz25_1
        try clear hcz25_2
        try clear hcz25_3
        try clear hcz25_4
        try clear hcz25_5
        try clear hcz25_6
        try clear hcz25_7
        try clear hcz25_8
        try clear hcz25_9
        try clear hcz30_0
        try clear hcz30_1
        try clear hcz30_2
        try clear hcz30_3
        try clear hcz30_4
        try clear hcz30_5
        try clear hcz30_6
        try clear hcz30_7
        try clear hcz30_8
        try clear hcz30_9
        try clear hcz33_0
        try clear hcz33_1
        try clear hcz33_2
        try clear hcz33_3
        try clear hcz33_4
        try clear hcz33_5
        try clear hcz33_6
        try clear hcz33_7
        try clear hcz33_8
        try clear hcz33_9
        try clear hcz35_0
        try clear hcz35_1
        try clear hcz35_2
        try clear hcz35_3
        try clear hcz35_4
        try clear hcz40_0
        try clear hcz40_1
        try clear hcz40_2
        try clear hcz40_3
        try clear hcz40_4
        try clear hcz40_5
        try clear hcz40_6
        try clear hcz40_7
        try clear hcz40_8
        try clear hcz40_9
        try clear hcz43_0
        try clear hcz43_1
        try clear hcz43_2
        try clear hcz43_3
        try clear hcz43_4
        try clear hcz43_5
        try clear hcz43_6
        try clear hcz43_7
        try clear hcz43_8
        try clear hcz43_9
        try clear hcz45_0
        try clear hcz45_1
        try clear hcz45_2
        try clear hcz45_3
        try clear hcz45_4
        try clear hcz50_0
        try clear hcz50_1
        try clear hcz50_2
        try clear hcz50_3
        try clear hcz50_4
        try clear hcz50_5
        try clear hcz50_6
        try clear hcz50_7
        try clear hcz50_8
        try clear hcz50_9
        try clear hcz53_0
        try clear hcz53_1
        try clear hcz53_2
        try clear hcz53_3
        try clear hcz53_4
        try clear hcz53_5
        try clear hcz53_6
        try clear hcz53_7
        try clear hcz53_8
        try clear hcz53_9
        try clear hcz55_0
        try clear hcz55_1
        try clear hcz55_2
        try clear hcz55_3
        try clear hcz55_4
        try clear hcz56_0
        try clear hcz56_1
        try clear hcz56_2
        try clear hcz56_3
        try clear hcz56_4
        try clear hcz60_0
        try clear hcz60_1
        try clear hcz60_2
        try clear hcz60_3
        try clear hcz60_4
        try clear hcz60_5
        try clear hcz60_6
        try clear hcz60_7
        try clear hcz60_8
        try clear hcz60_9
        try clear hcz63_0
        try clear hcz63_1
        try clear hcz63_2
        try clear hcz63_3
        try clear hcz63_4
        try clear hcz63_5
        try clear hcz63_6
        try clear hcz63_7
        try clear hcz63_8
        try clear hcz63_9
        try clear hcz65_0
        try clear hcz65_1
        try clear hcz65_2
        try clear hcz65_3
        try clear hcz65_4
        try clear hcz66_0
        try clear hcz66_1
        try clear hcz66_2
        try clear hcz66_3
        try clear hcz66_4
        try clear hcz74_0
        try clear hcz74_1
        try clear hcz74_2
        try clear hcz74_3
        try clear hcz74_4
        try clear hcz74_5
        try clear hcz74_6
        try clear hcz74_7
        try clear hcz74_8
        try clear hcz74_9
        try clear hcz78_0
        try clear hcz78_1
        try clear hcz78_2
        try clear hcz78_3
        try clear hcz78_4
        try clear hcz78_5
        try clear hcz78_6
        try clear hcz78_7
        try clear hcz78_8
        try clear hcz78_9
        try clear hcz91_0
        try clear hcz91_1
        try clear hcz91_2
        try clear hcz91_3
        try clear hcz91_4
        try clear hcz91_5
        try clear hcz91_6
        try clear hcz91_7
        try clear hcz91_8
        try clear hcz91_9
        try clear hcz94_0
        try clear hcz94_1
        try clear hcz94_2
        try clear hcz94_3
        try clear hcz94_4
        try clear hcz94_5
        try clear hcz94_6
        try clear hcz94_7
        try clear hcz94_8
        try clear hcz94_9
        try clear hfz101_0
        try clear hfz101_1
        try clear hfz101_2
        try clear hfz101_3
        try clear hfz101_4
        try clear hfz101_5
        try clear hfz101_6
        try clear hfz101_7
        try clear hfz101_8
        try clear hfz101_9
        try clear hfz104_0
        try clear hfz104_1
        try clear hfz104_2
        try clear hfz104_3
        try clear hfz104_4
        try clear hfz104_5
        try clear hfz104_6
        try clear hfz104_7
        try clear hfz104_8
        try clear hfz104_9
        try clear hfz112_0
        try clear hfz112_1
        try clear hfz112_2
        try clear hfz112_3
        try clear hfz112_4
        try clear hfz116_0
        try clear hfz116_1
        try clear hfz116_2
        try clear hfz116_3
        try clear hfz116_4
        try clear hfz17_0
        try clear hfz17_1
        try clear hfz17_2
        try clear hfz17_3
        try clear hfz17_4
        try clear hfz17_5
        try clear hfz17_6
        try clear hfz17_7
        try clear hfz17_8
        try clear hfz17_9
        try clear hfz22_0
        try clear hfz22_1
        try clear hfz22_2
        try clear hfz22_3
        try clear hfz22_4
        try clear hfz22_5
        try clear hfz22_6
        try clear hfz22_7
        try clear hfz22_8
        try clear hfz22_9
        try clear hfz25_0
        try clear hfz25_1
        try clear hfz25_2
        try clear hfz25_3
        try clear hfz25_4
        try clear hfz25_5
        try clear hfz25_6
        try clear hfz25_7
        try clear hfz25_8
        try clear hfz25_9
        try clear hfz30_0
        try clear hfz30_1
        try clear hfz30_2
        try clear hfz30_3
        try clear hfz30_4
        try clear hfz30_5
        try clear hfz30_6
        try clear hfz30_7
        try clear hfz30_8
        try clear hfz30_9
        try clear hfz33_0
        try clear hfz33_1
        try clear hfz33_2
        try clear hfz33_3
        try clear hfz33_4
        try clear hfz33_5
        try clear hfz33_6
        try clear hfz33_7
        try clear hfz33_8
        try clear hfz33_9
        try clear hfz35_0
        try clear hfz35_1
        try clear hfz35_2
        try clear hfz35_3
        try clear hfz35_4
        try clear hfz40_0
        try clear hfz40_1
        try clear hfz40_2
        try clear hfz40_3
        try clear hfz40_4
        try clear hfz40_5
        try clear hfz40_6
        try clear hfz40_7
        try clear hfz40_8
        try clear hfz40_9
        try clear hfz43_0
        try clear hfz43_1
        try clear hfz43_2
        try clear hfz43_3
        try clear hfz43_4
        try clear hfz43_5
        try clear hfz43_6
        try clear hfz43_7
        try clear hfz43_8
        try clear hfz43_9
        try clear hfz45_0
        try clear hfz45_1
        try clear hfz45_2
        try clear hfz45_3
        try clear hfz45_4
        try clear hfz50_0
        try clear hfz50_1
        try clear hfz50_2
        try clear hfz50_3
        try clear hfz50_4
        try clear hfz50_5
        try clear hfz50_6
        try clear hfz50_7
        try clear hfz50_8
        try clear hfz50_9
        try clear hfz53_0
        try clear hfz53_1
        try clear hfz53_2
        try clear hfz53_3
        try clear hfz53_4
        try clear hfz53_5
        try clear hfz53_6
        try clear hfz53_7
        try clear hfz53_8
        try clear hfz53_9
        try clear hfz55_0
        try clear hfz55_1
        try clear hfz55_2
        try clear hfz55_3
        try clear hfz55_4
        try clear hfz56_0
        try clear hfz56_1
        try clear hfz56_2
        try clear hfz56_3
        try clear hfz56_4
        try clear hfz60_0
        try clear hfz60_1
        try clear hfz60_2
        try clear hfz60_3
        try clear hfz60_4
        try clear hfz60_5
        try clear hfz60_6
        try clear hfz60_7
        try clear hfz60_8
        try clear hfz60_9
        try clear hfz63_0
        try clear hfz63_1
        try clear hfz63_2
        try clear hfz63_3
        try clear hfz63_4
        try clear hfz63_5
        try clear hfz63_6
        try clear hfz63_7
        try clear hfz63_8
        try clear hfz63_9
        try clear hfz65_0
        try clear hfz65_1
        try clear hfz65_2
        try clear hfz65_3
        try clear hfz65_4
        try clear hfz66_0
        try clear hfz66_1
        try clear hfz66_2
        try clear hfz66_3
        try clear hfz66_4
        try clear hfz74_0
        try clear hfz74_1
        try clear hfz74_2
        try clear hfz74_3
        try clear hfz74_4
        try clear hfz74_5
        try clear hfz74_6
        try clear hfz74_7
        try clear hfz74_8
        try clear hfz74_9
        try clear hfz78_0
        try clear hfz78_1
        try clear hfz78_2
        try clear hfz78_3
        try clear hfz78_4
        try clear hfz78_5
        try clear hfz78_6
        try clear hfz78_7
        try clear hfz78_8
        try clear hfz78_9
        try clear hfz91_0
        try clear hfz91_1
        try clear hfz91_2
        try clear hfz91_3
        try clear hfz91_4
        try clear hfz91_5
        try clear hfz91_6
        try clear hfz91_7
        try clear hfz91_8
        try clear hfz91_9
        try clear hfz94_0
        try clear hfz94_1
        try clear hfz94_2
        try clear hfz94_3
        try clear hfz94_4
        try clear hfz94_5
        try clear hfz94_6
        try clear hfz94_7
        try clear hfz94_8
        try clear hfz94_9
        try clear p2
        obtain ⟨kq, x102_107, rfl, HA, HJ107, HO_16, HO_18, BK142, BK143, BK144, BK145, HB⟩ := hcut
        cases kq with
        | zero => exact absurd HA.out (by simp [quartermasterlaw21_ReqApart.j3])
        | succ kj107 =>
         have H := HA.out
         clear HA
         simp only [quartermasterlaw21_ReqApart.j3] at H
         by_cases c119 : x102_107 = true
         ·subst c119
          have H1 : (some true) = some r := by rw [if_pos rfl] at H; exact H
          clear H
          have H := H1
          clear H1
          obtain rfl := Option.some.inj H
          go_wp2
          go_ret
          exact ⟨by first | rfl | (simp [errW_none, errW_some] <;> rfl) | (simp [*, errW_none, errW_some] <;> rfl), by repeat (first | (with_reducible first | exact HB.out | apply below_alloc | apply pw_below_drewN | apply below_drew1 | refine below_set ?_ GE142.out | refine below_set ?_ GE143.out | refine below_set ?_ GE144.out | refine below_set ?_ GE145.out) | exact HB.out)⟩
         replace c119 := Bool.eq_false_iff.mpr c119
         subst c119
         have H1 : ((Pa.quartermasterref21_Bytes.f kj107 t157 t161).bind fun t165 => ((Pa.quartermasterref21_Replies.f kj107 a2_0 a2_1 a2_2 l2_3 l2_4 a3_0 a3_1 a3_2 l3_3 l3_4).bind fun t166 => (some (t165 == t166)))) = some r := by rw [if_neg (show ¬ (false = true) by decide)] at H; exact H
         clear H
         have H := H1
         clear H1
         replace H := Option.bind_eq_some_iff.mp H
         obtain ⟨t165, A1200, H⟩ := H
         replace H : ((Pa.quartermasterref21_Replies.f kj107 a2_0 a2_1 a2_2 l2_3 l2_4 a3_0 a3_1 a3_2 l3_3 l3_4).bind fun t166 => (some (t165 == t166))) = some r := H
         have A120 := Aside0.mk A1200
         clear A1200
         replace H := Option.bind_eq_some_iff.mp H
         obtain ⟨t166, A1210, H⟩ := H
         replace H : (some (t165 == t166)) = some r := H
         have A121 := Aside0.mk A1210
         clear A1210
         obtain rfl := Option.some.inj H
         obtain ⟨Ao122, co122, eo122⟩ := Kd.R_slice HO_16.out
         subst eo122
         obtain ⟨Ao123, co123, eo123⟩ := Kd.R_slice HO_18.out
         subst eo123
         go_wp2_with (first | ((with_reducible refine gate_callee (f := 12) rfl ?_); refine goesL_ (some 105) rfl rfl Try.func12 (by kernel_rfl) rfl #[.slice Ao122 t157.length co122, .slice Ao123 t161.length co123] rfl (by (try simp only [List.map_toArray, List.map_cons, List.map_nil]); first | done | rfl | (simp only [List.length_drop, List.length_take]; rfl)) ?_; (with_reducible refine (Pa.quartermasterref21_Bytes.calls kj107 _ _ t157 _ _ t161 t165 _ ?side1 ?side2 ?side3 ?side4 A120.out).mono ?_); (case side1 => repeat (first | exact (Kd.R_reads' HO_16.out).2.2 | (with_reducible refine Kd.C_alloc ?_ _) | (with_reducible refine Kd.C_drewN ?_ _) | (with_reducible refine Kd.C_drew ?_))); (case side2 => exact (Kd.R_reads' HO_16.out).2.1); (case side3 => repeat (first | exact (Kd.R_reads' HO_18.out).2.2 | (with_reducible refine Kd.C_alloc ?_ _) | (with_reducible refine Kd.C_drewN ?_ _) | (with_reducible refine Kd.C_drew ?_))); (case side4 => exact (Kd.R_reads' HO_18.out).2.1); rintro e w' ⟨rfl, ⟨nd, rfl⟩⟩; refine ⟨_, rfl, ?_⟩; have hnb124 := NB144_142.out; have hnc124 := NB142_144.out; have hnb125 := NB144_143.out; have hnc125 := NB143_144.out; have hnb126 := NB144_145.out; have hnc126 := NB145_144.out; have hcz127_0 : wc.cell? ⟨gb144, 0, none⟩ = some (.int .i64 a2_0) := (blk_cell BK144.out 0).trans rfl; have hcz127_1 : wc.cell? ⟨gb144, 1, none⟩ = some (.int .i64 a2_1) := (blk_cell BK144.out 1).trans rfl; have hcz127_2 : wc.cell? ⟨gb144, 2, none⟩ = some (.int .i64 a2_2) := (blk_cell BK144.out 2).trans rfl; have hcz127_3 : wc.cell? ⟨gb144, 3, none⟩ = some (.slice A2_3 l2_3.length c2_3) := (blk_cell BK144.out 3).trans rfl; have hcz127_4 : wc.cell? ⟨gb144, 4, none⟩ = some (.slice A2_4 l2_4.length c2_4) := (blk_cell BK144.out 4).trans rfl; have hfz127_0 := blk_frozen BK144.out 0; have hfz127_1 := blk_frozen BK144.out 1; have hfz127_2 := blk_frozen BK144.out 2; have hfz127_3 := blk_frozen BK144.out 3; have hfz127_4 := blk_frozen BK144.out 4; have hnb128 := NB145_142.out; have hnc128 := NB142_145.out; have hnb129 := NB145_143.out; have hnc129 := NB143_145.out; have hcz130_0 : wc.cell? ⟨gb145, 0, none⟩ = some (.int .i64 a3_0) := (blk_cell BK145.out 0).trans rfl; have hcz130_1 : wc.cell? ⟨gb145, 1, none⟩ = some (.int .i64 a3_1) := (blk_cell BK145.out 1).trans rfl; have hcz130_2 : wc.cell? ⟨gb145, 2, none⟩ = some (.int .i64 a3_2) := (blk_cell BK145.out 2).trans rfl; have hcz130_3 : wc.cell? ⟨gb145, 3, none⟩ = some (.slice A3_3 l3_3.length c3_3) := (blk_cell BK145.out 3).trans rfl; have hcz130_4 : wc.cell? ⟨gb145, 4, none⟩ = some (.slice A3_4 l3_4.length c3_4) := (blk_cell BK145.out 4).trans rfl; have hfz130_0 := blk_frozen BK145.out 0; have hfz130_1 := blk_frozen BK145.out 1; have hfz130_2 := blk_frozen BK145.out 2; have hfz130_3 := blk_frozen BK145.out 3; have hfz130_4 := blk_frozen BK145.out 4) | ((with_reducible refine gate_callee (f := 15) rfl ?_); refine goesL_ (some 108) rfl rfl Try.func15 (by kernel_rfl) rfl #[.agg #[.int .i64 a2_0, .int .i64 a2_1, .int .i64 a2_2, .slice A2_3 l2_3.length c2_3, .slice A2_4 l2_4.length c2_4], .agg #[.int .i64 a3_0, .int .i64 a3_1, .int .i64 a3_2, .slice A3_3 l3_3.length c3_3, .slice A3_4 l3_4.length c3_4]] rfl (by (try simp only [List.map_toArray, List.map_cons, List.map_nil]); first | done | rfl | (simp only [List.length_drop, List.length_take]; rfl)) ?_; (with_reducible refine (Pa.quartermasterref21_Replies.calls kj107 a2_0 a2_1 a2_2 _ _ l2_3 _ _ l2_4 a3_0 a3_1 a3_2 _ _ l3_3 _ _ l3_4 t166 _ ?side1 ?side2 ?side3 ?side4 ?side5 ?side6 ?side7 ?side8 A121.out).mono ?_); (case side1 => repeat (first | exact (Kd.C_below HR2_3.out (by repeat (first | (with_reducible first | exact HB.out | apply below_alloc | apply pw_below_drewN | apply below_drew1 | refine below_set ?_ GE142.out | refine below_set ?_ GE143.out | refine below_set ?_ GE144.out | refine below_set ?_ GE145.out) | exact HB.out))) | (with_reducible refine Kd.C_alloc ?_ _) | (with_reducible refine Kd.C_drewN ?_ _) | (with_reducible refine Kd.C_drew ?_))); (case side2 => exact HC2_3.out); (case side3 => repeat (first | exact (Kd.C_below HR2_4.out (by repeat (first | (with_reducible first | exact HB.out | apply below_alloc | apply pw_below_drewN | apply below_drew1 | refine below_set ?_ GE142.out | refine below_set ?_ GE143.out | refine below_set ?_ GE144.out | refine below_set ?_ GE145.out) | exact HB.out))) | (with_reducible refine Kd.C_alloc ?_ _) | (with_reducible refine Kd.C_drewN ?_ _) | (with_reducible refine Kd.C_drew ?_))); (case side4 => exact HC2_4.out); (case side5 => repeat (first | exact (Kd.C_below HR3_3.out (by repeat (first | (with_reducible first | exact HB.out | apply below_alloc | apply pw_below_drewN | apply below_drew1 | refine below_set ?_ GE142.out | refine below_set ?_ GE143.out | refine below_set ?_ GE144.out | refine below_set ?_ GE145.out) | exact HB.out))) | (with_reducible refine Kd.C_alloc ?_ _) | (with_reducible refine Kd.C_drewN ?_ _) | (with_reducible refine Kd.C_drew ?_))); (case side6 => exact HC3_3.out); (case side7 => repeat (first | exact (Kd.C_below HR3_4.out (by repeat (first | (with_reducible first | exact HB.out | apply below_alloc | apply pw_below_drewN | apply below_drew1 | refine below_set ?_ GE142.out | refine below_set ?_ GE143.out | refine below_set ?_ GE144.out | refine below_set ?_ GE145.out) | exact HB.out))) | (with_reducible refine Kd.C_alloc ?_ _) | (with_reducible refine Kd.C_drewN ?_ _) | (with_reducible refine Kd.C_drew ?_))); (case side8 => exact HC3_4.out); rintro e w131 ⟨rfl, hb⟩; refine ⟨_, rfl, ?_⟩; have n0_ := Aside0.mk (Kd.R_below (by (with_reducible repeat (first | apply Kd.R_alloc | apply Kd.R_drewN | apply Kd.R_drew)); exact HO_16.out) hb); have n1_ := Aside0.mk (Kd.R_below (by (with_reducible repeat (first | apply Kd.R_alloc | apply Kd.R_drewN | apply Kd.R_drew)); exact HO_18.out) hb); have n2_ := Aside0.mk (blk_below (g := gb142) (o := .cells #[.int .i64 a0_0, .int .i64 a0_1, .int .i64 a0_2, .int .i64 a0_3, .int .i64 a0_4, .int .i64 a0_5, .int .i64 a0_6, .int .i64 a0_7, .int .i64 a0_8, .slice A0_9 l0_9.length c0_9] 26 (0, 0)) (by (with_reducible repeat (first | refine blk_drewN ?_ _ | refine blk_drew ?_ | refine blk_alloc ?_ _)); exact BK142.out) hb); have n3_ := Aside0.mk (blk_below (g := gb143) (o := .cells #[.int .i64 a1_0, .int .i64 a1_1, .int .i64 a1_2, .int .i64 a1_3, .int .i64 a1_4, .int .i64 a1_5, .int .i64 a1_6, .int .i64 a1_7, .int .i64 a1_8, .slice A1_9 l1_9.length c1_9] 26 (0, 0)) (by (with_reducible repeat (first | refine blk_drewN ?_ _ | refine blk_drew ?_ | refine blk_alloc ?_ _)); exact BK143.out) hb); have n4_ := Aside0.mk (blk_below (g := gb144) (o := .cells #[.int .i64 a2_0, .int .i64 a2_1, .int .i64 a2_2, .slice A2_3 l2_3.length c2_3, .slice A2_4 l2_4.length c2_4] 38 (0, 0)) (by (with_reducible repeat (first | refine blk_drewN ?_ _ | refine blk_drew ?_ | refine blk_alloc ?_ _)); exact BK144.out) hb); have n5_ := Aside0.mk (blk_below (g := gb145) (o := .cells #[.int .i64 a3_0, .int .i64 a3_1, .int .i64 a3_2, .slice A3_3 l3_3.length c3_3, .slice A3_4 l3_4.length c3_4] 38 (0, 0)) (by (with_reducible repeat (first | refine blk_drewN ?_ _ | refine blk_drew ?_ | refine blk_alloc ?_ _)); exact BK145.out) hb); have n6_ := Aside0.mk (below_step (by repeat (first | (with_reducible first | exact HB.out | apply below_alloc | apply pw_below_drewN | apply below_drew1 | refine below_set ?_ GE142.out | refine below_set ?_ GE143.out | refine below_set ?_ GE144.out | refine below_set ?_ GE145.out) | exact HB.out)) hb); clear HO_16; clear HO_18; clear BK142; clear BK143; clear BK144; clear BK145; clear HB; have HO_16 := n0_; have HO_18 := n1_; have BK142 := n2_; have BK143 := n3_; have BK144 := n4_; have BK145 := n5_; have HB := n6_; clear n0_ n1_ n2_ n3_ n4_ n5_ n6_; (try clear hb); (try clear hb2); (try clear hk); (try clear hi)))
         go_ret
         exact ⟨by first | rfl | (simp [errW_none, errW_some] <;> rfl) | (simp [*, errW_none, errW_some] <;> rfl), by repeat (first | (with_reducible first | exact HB.out | apply below_alloc | apply pw_below_drewN | apply below_drew1 | refine below_set ?_ GE142.out | refine below_set ?_ GE143.out | refine below_set ?_ GE144.out | refine below_set ?_ GE145.out) | exact HB.out)⟩
          
/-- THE ONE PURE STATEMENT of quartermasterlaw21_ReqApart. -/
def quartermasterlaw21_ReqApart.Pure : Prop := ∀ (a0_0 : Int) (a0_1 : Int) (a0_2 : Int) (a0_3 : Int) (a0_4 : Int) (a0_5 : Int) (a0_6 : Int) (a0_7 : Int) (a0_8 : Int) (l0_9 : List (S93)) (a1_0 : Int) (a1_1 : Int) (a1_2 : Int) (a1_3 : Int) (a1_4 : Int) (a1_5 : Int) (a1_6 : Int) (a1_7 : Int) (a1_8 : Int) (l1_9 : List (S93)) (a2_0 : Int) (a2_1 : Int) (a2_2 : Int) (l2_3 : List (S93)) (l2_4 : List (S76)) (a3_0 : Int) (a3_1 : Int) (a3_2 : Int) (l3_3 : List (S93)) (l3_4 : List (S76)), ((Lit.int .i64 a0_0).wf = true) → ((Lit.int .i64 a0_1).wf = true) → ((Lit.int .i64 a0_2).wf = true) → ((Lit.int .i64 a0_3).wf = true) → ((Lit.int .i64 a0_4).wf = true) → ((Lit.int .i64 a0_5).wf = true) → ((Lit.int .i64 a0_6).wf = true) → ((Lit.int .i64 a0_7).wf = true) → ((Lit.int .i64 a0_8).wf = true) → (l0_9.length ≤ maxLen) → (∀ y0 ∈ l0_9, qT93 y0) → ((Lit.int .i64 a1_0).wf = true) → ((Lit.int .i64 a1_1).wf = true) → ((Lit.int .i64 a1_2).wf = true) → ((Lit.int .i64 a1_3).wf = true) → ((Lit.int .i64 a1_4).wf = true) → ((Lit.int .i64 a1_5).wf = true) → ((Lit.int .i64 a1_6).wf = true) → ((Lit.int .i64 a1_7).wf = true) → ((Lit.int .i64 a1_8).wf = true) → (l1_9.length ≤ maxLen) → (∀ y0 ∈ l1_9, qT93 y0) → ((Lit.int .i64 a2_0).wf = true) → ((Lit.int .i64 a2_1).wf = true) → ((Lit.int .i64 a2_2).wf = true) → (l2_3.length ≤ maxLen) → (∀ y0 ∈ l2_3, qT93 y0) → (l2_4.length ≤ maxLen) → (∀ y0 ∈ l2_4, qT76 y0) → ((Lit.int .i64 a3_0).wf = true) → ((Lit.int .i64 a3_1).wf = true) → ((Lit.int .i64 a3_2).wf = true) → (l3_3.length ≤ maxLen) → (∀ y0 ∈ l3_3, qT93 y0) → (l3_4.length ≤ maxLen) → (∀ y0 ∈ l3_4, qT76 y0) → ∃ k, quartermasterlaw21_ReqApart.f k a0_0 a0_1 a0_2 a0_3 a0_4 a0_5 a0_6 a0_7 a0_8 l0_9 a1_0 a1_1 a1_2 a1_3 a1_4 a1_5 a1_6 a1_7 a1_8 l1_9 a2_0 a2_1 a2_2 l2_3 l2_4 a3_0 a3_1 a3_2 l3_3 l3_4 = some true
 
end Go.Proofs.Ytgdelfckhcgnhaa.Pz
 