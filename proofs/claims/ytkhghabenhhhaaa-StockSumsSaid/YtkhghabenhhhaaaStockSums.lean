/- Stocks: what calls leave as it was, as plain laws. No program in sight. -/
import Derived.Test.YtkhghabenhhhaaaStockLaw
namespace Go.Proofs.Ytkhghabenhhhaaa.Stock
open Go.RowKit Go.Proofs.Ytkhghabenhhhaaa.Pa Go.Proofs.YtkhghabenhhhaaaW.PrintWords
set_option linter.unusedVariables false

structure Moved (l m : List Spot) (sku loc q tw : Int) : Prop where
  may : May l
  p : pairB sku loc = true
  p' : pairB sku tw = true
  q0 : 0 < q
  ne : tw ≠ loc
  has : q ≤ (getS l sku loc).f2 - (getS l sku loc).f3
  fits : (getS l sku tw).f2 + q ≤ 9223372036854775807
  get : ∀ a b, getS m a b = if a = sku ∧ b = tw then { getS l sku tw with f2 := (getS l sku tw).f2 + q } else if a = sku ∧ b = loc then { getS l sku loc with f2 := (getS l sku loc).f2 - q } else getS l a b
theorem move_ok {l : List Spot} (hl : Lim l) {sku loc q tw : Int} (h : (moveP l sku loc q tw).2 = 0) : Moved l (moveP l sku loc q tw).1 sku loc q tw := by
  unfold moveP at h ⊢
  by_cases h1 : knownP l sku loc = 0
  · rw [if_pos h1] at h ⊢
    by_cases h2 : pairB sku tw = true
    · rw [if_pos h2] at h ⊢
      by_cases h3 : q ≤ 0 ∨ tw = loc
      · rw [if_pos h3] at h; exact absurd h (show ¬ ((1 : Int) = 0) by decide)
      · rw [if_neg h3] at h ⊢
        by_cases h4 : (turnedP (lessF q) l sku loc q).2 = 0
        · rw [if_pos h4] at h ⊢
          have hq : 0 < q := by omega
          have hne : tw ≠ loc := fun e => h3 (.inr e)
          have o1 := turned_ok h4
          have z1 := less_zero o1.2.2.2.1
          have o2 := turned_ok h
          have z2 := take_zero o2.2.2.2.1
          have hl2 := (less_good hl sku loc q).2.2
          have g1 : getS (turnedP (lessF q) l sku loc q).1 sku tw = getS l sku tw := by rw [turned_get (lessF_turns hq) hl h4, if_neg (fun e => hne e.2)]
          refine ⟨o1.1, o1.2.1, h2, hq, hne, z1.1, by rw [← g1]; exact z2.1, fun a b => ?_⟩
          rw [turned_get (takeF_turns q) hl2 h, z2.2.2, g1, turned_get (lessF_turns hq) hl h4, z1.2]
        · rw [if_neg h4] at h; exact absurd h h4
    · rw [if_neg h2] at h; exact absurd h (show ¬ ((3 : Int) = 0) by decide)
  · rw [if_neg h1] at h; exact absurd h h1
theorem turned_other {q : Int} {F : Spot → Int × Spot} (hF : 0 < q → Turns F) {l : List Spot} (hl : Lim l) {sku loc : Int} (h : (turnedP F l sku loc q).2 = 0) {a b : Int} (ha : ¬ sku = a) : getS (turnedP F l sku loc q).1 a b = getS l a b := by
  have h0 := (turned_ok h).2.2.1
  rw [turned_get (hF h0) hl h, if_neg (fun e => ha e.1.symm)]
theorem adjust_other {l : List Spot} (hl : Lim l) {sku loc q : Int} (h : (adjustP l sku loc q).2 = 0) {a b : Int} (ha : ¬ sku = a) : getS (adjustP l sku loc q).1 a b = getS l a b := by
  unfold adjustP at h ⊢
  by_cases h1 : 0 ≤ q
  · rw [if_pos h1] at h ⊢; exact turned_other (fun _ => takeF_turns q) hl h ha
  · rw [if_neg h1] at h ⊢
    by_cases h2 : knownP l sku loc = 0
    · rw [if_pos h2] at h ⊢
      by_cases h3 : q = -9223372036854775808
      · rw [if_pos h3] at h; exact absurd h (show ¬ ((31 : Int) = 0) by decide)
      · rw [if_neg h3] at h ⊢; exact turned_other (fun h0 => lessF_turns h0) hl h ha
    · rw [if_neg h2] at h; exact absurd h h2
theorem move_other {l : List Spot} (hl : Lim l) {sku loc q tw : Int} (h : (moveP l sku loc q tw).2 = 0) {a b : Int} (ha : ¬ sku = a) : getS (moveP l sku loc q tw).1 a b = getS l a b := by
  rw [(move_ok hl h).get, if_neg (fun e => ha e.1.symm), if_neg (fun e => ha e.1.symm)]
theorem turned_hand {q : Int} {F : Spot → Int × Spot} (hF : 0 < q → Turns F) (hk : ∀ x, (F x).1 = 0 → (F x).2.f2 = x.f2) {l : List Spot} (hl : Lim l) {sku loc : Int} (h : (turnedP F l sku loc q).2 = 0) (a b : Int) : (getS (turnedP F l sku loc q).1 a b).f2 = (getS l a b).f2 := by
  have h0 := turned_ok h
  rw [turned_get (hF h0.2.2.1) hl h]
  by_cases h1 : a = sku ∧ b = loc
  · rw [if_pos h1, hk _ h0.2.2.2.1, h1.1, h1.2]
  · rw [if_neg h1]
theorem free_hand {l : List Spot} (hl : Lim l) {sku loc q : Int} (h : (turnedP (freeF q) l sku loc q).2 = 0) (a b : Int) : (getS (turnedP (freeF q) l sku loc q).1 a b).f2 = (getS l a b).f2 :=
  turned_hand (fun _ => freeF_turns q) (fun x _ => rfl) hl h a b
theorem hold_hand {l : List Spot} (hl : Lim l) {sku loc q : Int} (h : (turnedP (holdF q) l sku loc q).2 = 0) (a b : Int) : (getS (turnedP (holdF q) l sku loc q).1 a b).f2 = (getS l a b).f2 :=
  turned_hand (fun h0 => holdF_turns h0) (fun x h => by rw [(hold_zero h).2]) hl h a b
theorem holdL_hand : ∀ (m : List Line) {l : List Spot}, Lim l → (holdL l m).2 = 0 → ∀ a b, (getS (holdL l m).1 a b).f2 = (getS l a b).f2
  | [], l, hl, h, a, b => rfl
  | x :: r, l, hl, h, a, b => by
    unfold holdL at h ⊢
    by_cases h1 : (turnedP (holdF x.f2) l x.f0 x.f1 x.f2).2 = 0
    · rw [if_pos h1] at h ⊢
      rw [holdL_hand r (hold_good hl _ _ _).2.2 h a b, hold_hand hl h1]
    · rw [if_neg h1] at h; exact absurd h h1
theorem holdP_hand {l : List Spot} (hl : Lim l) {m : List Line} (h : (holdP l m).2 = 0) (a b : Int) : (getS (holdP l m).1 a b).f2 = (getS l a b).f2 := by
  unfold holdP at h ⊢
  by_cases h0 : mayB l = true
  · rw [if_pos h0] at h ⊢
    by_cases h1 : m.any noPair = true
    · rw [if_pos h1] at h; exact absurd h (show ¬ ((3 : Int) = 0) by decide)
    · rw [if_neg h1] at h ⊢
      by_cases h2 : m.length = 0 ∨ 4 < m.length ∨ m.any noQty = true
      · rw [if_pos h2] at h; exact absurd h (show ¬ ((1 : Int) = 0) by decide)
      · rw [if_neg h2] at h ⊢
        exact holdL_hand m hl h a b
  · rw [if_neg h0] at h; exact absurd h (show ¬ ((1 : Int) = 0) by decide)
theorem at_may {l : List Spot} (h : May l) (a b : Int) : atP l a b = getS l a b := if_pos (mayB_iff.2 h)
end Go.Proofs.Ytkhghabenhhhaaa.Stock
