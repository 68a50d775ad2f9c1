/- Stocks: what undoes what, as plain laws. No program in sight. -/
import Derived.Test.YtkhghabenhhhaaaStockLaw
namespace Go.Proofs.Ytkhghabenhhhaaa.Stock
open Go.RowKit Go.Proofs.Ytkhghabenhhhaaa.Pa Go.Proofs.YtkhghabenhhhaaaW.PrintWords
set_option linter.unusedVariables false

theorem turned_get0 {F : Spot → Int × Spot} (hF : Turns F) {l : List Spot} (hl : Lim l) {sku loc qty : Int} (h : (turnedP F l sku loc qty).2 = 0) : getS (turnedP F l sku loc qty).1 sku loc = (F (getS l sku loc)).2 := by
  rw [turned_get hF hl h, if_pos ⟨rfl, rfl⟩]
/-- Two turns of one spot. -/
theorem turned_twice {F G : Spot → Int × Spot} (hF : Turns F) (hG : Turns G) {l : List Spot} (hl : Lim l) {sku loc q q' : Int} (h : (turnedP F l sku loc q).2 = 0) (hq : 0 < q') (hg : (G (F (getS l sku loc)).2).1 = 0) :
    (turnedP G (turnedP F l sku loc q).1 sku loc q').2 = 0 ∧ ∀ a b, getS (turnedP G (turnedP F l sku loc q).1 sku loc q').1 a b = if a = sku ∧ b = loc then (G (F (getS l sku loc)).2).2 else getS l a b := by
  have h1 := turned_good hF hl sku loc q
  have h2 := turned_ok h
  have h3 := turned_get0 hF hl h
  have hz : (turnedP G (turnedP F l sku loc q).1 sku loc q').2 = 0 := by
    rw [turned_of (h1.1 h) h2.2.1 hq (by rw [h3]; exact hg)]
  refine ⟨hz, fun a b => ?_⟩
  rw [turned_get hG h1.2.2 hz, h3]
  by_cases hab : a = sku ∧ b = loc
  · rw [if_pos hab, if_pos hab]
  · rw [if_neg hab, if_neg hab, turned_get hF hl h, if_neg hab]
theorem holdP_one {l : List Spot} {x : Line} (h : (holdP l [x]).2 = 0) : (turnedP (holdF x.f2) l x.f0 x.f1 x.f2).2 = 0 ∧ holdP l [x] = turnedP (holdF x.f2) l x.f0 x.f1 x.f2 := by
  unfold holdP at h ⊢
  by_cases h0 : mayB l = true
  · rw [if_pos h0] at h ⊢
    by_cases h1 : ([x] : List Line).any noPair = true
    · rw [if_pos h1] at h; exact absurd h (show ¬ ((3 : Int) = 0) by decide)
    · rw [if_neg h1] at h ⊢
      by_cases h2 : ([x] : List Line).length = 0 ∨ 4 < ([x] : List Line).length ∨ ([x] : List Line).any noQty = true
      · rw [if_pos h2] at h; exact absurd h (show ¬ ((1 : Int) = 0) by decide)
      · rw [if_neg h2] at h ⊢
        unfold holdL at h ⊢
        by_cases h3 : (turnedP (holdF x.f2) l x.f0 x.f1 x.f2).2 = 0
        · rw [if_pos h3] at h ⊢
          exact ⟨h3, by unfold holdL; exact Prod.ext rfl h3.symm⟩
        · rw [if_neg h3] at h; exact absurd h h3
  · rw [if_neg h0] at h; exact absurd h (show ¬ ((1 : Int) = 0) by decide)
theorem spot_ext {x y : Spot} (h0 : x.f0 = y.f0) (h1 : x.f1 = y.f1) (h2 : x.f2 = y.f2) (h3 : x.f3 = y.f3) : x = y := by
  obtain ⟨a, b, c, d⟩ := x
  obtain ⟨a', b', c', d'⟩ := y
  simp only at h0 h1 h2 h3
  subst h0; subst h1; subst h2; subst h3; rfl
theorem get_ext {l : List Spot} {a b sku loc : Int} {x : Spot} (h : x = getS l sku loc) : (if a = sku ∧ b = loc then x else getS l a b) = getS l a b := by
  by_cases h1 : a = sku ∧ b = loc
  · rw [if_pos h1, h, h1.1, h1.2]
  · rw [if_neg h1]
theorem adjust_neg {l : List Spot} {sku loc q : Int} (hm : May l) (hp : pairB sku loc = true) (h0 : 0 < q) (h1 : q < 9223372036854775808) : adjustP l sku loc (-q) = turnedP (lessF q) l sku loc q := by
  unfold adjustP
  rw [if_neg (by omega), if_pos (known_zero hm hp), if_neg (by omega), Int.neg_neg]
/-- Hold and Free. -/
theorem hold_free {l : List Spot} (hl : Lim l) {sku loc q : Int} (h : (turnedP (holdF q) l sku loc q).2 = 0) :
    (turnedP (freeF q) (turnedP (holdF q) l sku loc q).1 sku loc q).2 = 0 ∧ (turnedP (freeF q) (turnedP (holdF q) l sku loc q).1 sku loc q).1 = l := by
  obtain ⟨hm, hp, hq, h1, h2⟩ := turned_ok h
  have hs := getS_sound hm hl sku loc
  obtain ⟨h3, h4⟩ := hold_zero h1
  have e := free_of (q := q) (x := (holdF q (getS l sku loc)).2) (by omega) (by rw [h4]; show q ≤ (getS l sku loc).f3 + q; have := hs.1; omega)
  obtain ⟨t1, t2⟩ := turned_twice (holdF_turns hq) (freeF_turns q) hl h hq (by rw [e])
  have hg := free_good (turned_good (holdF_turns hq) hl sku loc q).2.2 sku loc q
  refine ⟨t1, May.ext (hg.1 t1) hm (fun a b _ => ?_)⟩
  rw [t2]
  refine get_ext ?_
  rw [e, h4]
  exact spot_ext rfl rfl rfl (show (getS l sku loc).f3 + q - q = _ by omega)
/-- A Ship is a Free, and an Adjust. -/
theorem hold_ship {l : List Spot} (hl : Lim l) {sku loc q : Int} (h : (turnedP (holdF q) l sku loc q).2 = 0) :
    (turnedP (shipF q) (turnedP (holdF q) l sku loc q).1 sku loc q).2 = 0 ∧ (turnedP (lessF q) l sku loc q).2 = 0 ∧ (turnedP (shipF q) (turnedP (holdF q) l sku loc q).1 sku loc q).1 = (turnedP (lessF q) l sku loc q).1 := by
  obtain ⟨hm, hp, hq, h1, h2⟩ := turned_ok h
  have hs := getS_sound hm hl sku loc
  obtain ⟨h3, h4⟩ := hold_zero h1
  have e := ship_of (q := q) (x := (holdF q (getS l sku loc)).2) (by omega) (by rw [h4]; show q ≤ (getS l sku loc).f3 + q; have := hs.1; omega)
  obtain ⟨t1, t2⟩ := turned_twice (holdF_turns hq) (shipF_turns hq) hl h hq (by rw [e])
  have hg := ship_good (turned_good (holdF_turns hq) hl sku loc q).2.2 sku loc q
  have e2 := less_of h3
  have t3 : (turnedP (lessF q) l sku loc q).2 = 0 := by rw [turned_of hm hp hq (by rw [e2])]
  refine ⟨t1, t3, May.ext (hg.1 t1) ((less_good hl sku loc q).1 t3) (fun a b _ => ?_)⟩
  rw [t2, turned_get (lessF_turns hq) hl t3, e, e2, h4]
  have : ({ ({ getS l sku loc with f3 := (getS l sku loc).f3 + q } : Spot) with f3 := (getS l sku loc).f3 + q - q, f2 := (getS l sku loc).f2 - q } : Spot) = { getS l sku loc with f2 := (getS l sku loc).f2 - q } := spot_ext rfl rfl rfl (by show (getS l sku loc).f3 + q - q = (getS l sku loc).f3; omega)
  rw [← this]
/-- Take, and an Adjust of as many below 0. -/
theorem take_less {l : List Spot} (hl : Lim l) {sku loc q : Int} (h : (turnedP (takeF q) l sku loc q).2 = 0) :
    (turnedP (lessF q) (turnedP (takeF q) l sku loc q).1 sku loc q).2 = 0 ∧ (turnedP (lessF q) (turnedP (takeF q) l sku loc q).1 sku loc q).1 = l := by
  obtain ⟨hm, hp, hq, h1, h2⟩ := turned_ok h
  have hs := getS_sound hm hl sku loc
  obtain ⟨h3, h5, h4⟩ := take_zero h1
  have e := less_of (q := q) (x := (takeF q (getS l sku loc)).2) (by rw [h4]; show q ≤ (getS l sku loc).f2 + q - (getS l sku loc).f3; have := hs.2.1; omega)
  obtain ⟨t1, t2⟩ := turned_twice (takeF_turns q) (lessF_turns hq) hl h hq (by rw [e])
  have hg := less_good (turned_good (takeF_turns q) hl sku loc q).2.2 sku loc q
  refine ⟨t1, May.ext (hg.1 t1) hm (fun a b _ => ?_)⟩
  rw [t2]
  refine get_ext ?_
  rw [e, h4]
  exact spot_ext rfl rfl (show (getS l sku loc).f2 + q - q = _ by omega) rfl
/-! #### Moves -/
structure Moved (l m : List Spot) (sku loc q tw : Int) : Prop where
  may : May l
  p : pairB sku loc = true
  p' : pairB sku tw = true
  q0 : 0 < q
  ne : tw ≠ loc
  has : q ≤ (getS l sku loc).f2 - (getS l sku loc).f3
  fits : (getS l sku tw).f2 + q ≤ 9223372036854775807
  get : ∀ a b, getS m a b = if a = sku ∧ b = tw then { getS l sku tw with f2 := (getS l sku tw).f2 + q } else if a = sku ∧ b = loc then { getS l sku loc with f2 := (getS l sku loc).f2 - q } else getS l a b
theorem move_ok {l : List Spot} (hl : Lim l) {sku loc q tw : Int} (h : (moveP l sku loc q tw).2 = 0) : Moved l (moveP l sku loc q tw).1 sku loc q tw := by
  unfold moveP at h ⊢
  by_cases h1 : knownP l sku loc = 0
  · rw [if_pos h1] at h ⊢
    by_cases h2 : pairB sku tw = true
    · rw [if_pos h2] at h ⊢
      by_cases h3 : q ≤ 0 ∨ tw = loc
      · rw [if_pos h3] at h; exact absurd h (show ¬ ((1 : Int) = 0) by decide)
      · rw [if_neg h3] at h ⊢
        by_cases h4 : (turnedP (lessF q) l sku loc q).2 = 0
        · rw [if_pos h4] at h ⊢
          have hq : 0 < q := by omega
          have hne : tw ≠ loc := fun e => h3 (.inr e)
          have o1 := turned_ok h4
          have z1 := less_zero o1.2.2.2.1
          have o2 := turned_ok h
          have z2 := take_zero o2.2.2.2.1
          have hl2 := (less_good hl sku loc q).2.2
          have g1 : getS (turnedP (lessF q) l sku loc q).1 sku tw = getS l sku tw := by rw [turned_get (lessF_turns hq) hl h4, if_neg (fun e => hne e.2)]
          refine ⟨o1.1, o1.2.1, h2, hq, hne, z1.1, by rw [← g1]; exact z2.1, fun a b => ?_⟩
          rw [turned_get (takeF_turns q) hl2 h, z2.2.2, g1, turned_get (lessF_turns hq) hl h4, z1.2]
        · rw [if_neg h4] at h; exact absurd h h4
    · rw [if_neg h2] at h; exact absurd h (show ¬ ((3 : Int) = 0) by decide)
  · rw [if_neg h1] at h; exact absurd h h1
theorem move_of {l : List Spot} (hl : Lim l) {sku loc q tw : Int} (hm : May l) (hp : pairB sku loc = true) (hp' : pairB sku tw = true) (hq : 0 < q) (hne : tw ≠ loc) (hh : q ≤ (getS l sku loc).f2 - (getS l sku loc).f3) (hf : (getS l sku tw).f2 + q ≤ 9223372036854775807) : (moveP l sku loc q tw).2 = 0 := by
  unfold moveP
  have t1 : (turnedP (lessF q) l sku loc q).2 = 0 := by rw [turned_of hm hp hq (by rw [less_of hh])]
  rw [if_pos (known_zero hm hp), if_pos hp', if_neg (by omega), if_pos t1]
  have g1 : getS (turnedP (lessF q) l sku loc q).1 sku tw = getS l sku tw := by rw [turned_get (lessF_turns hq) hl t1, if_neg (fun e => hne e.2)]
  have hs := getS_sound hm hl sku tw
  rw [turned_of ((less_good hl sku loc q).1 t1) hp' hq (by rw [g1, take_of (by have := hs.1; have := hs.2.1; omega) (by omega) hf])]
theorem move_back {l : List Spot} (hl : Lim l) {sku loc q tw : Int} (h : (moveP l sku loc q tw).2 = 0) :
    (moveP (moveP l sku loc q tw).1 sku tw q loc).2 = 0 ∧ (moveP (moveP l sku loc q tw).1 sku tw q loc).1 = l := by
  have M := move_ok hl h
  have hg := move_good hl sku loc q tw
  have s1 := getS_sound M.may hl sku loc
  have s2 := getS_sound M.may hl sku tw
  have g1 : getS (moveP l sku loc q tw).1 sku tw = { getS l sku tw with f2 := (getS l sku tw).f2 + q } := by rw [M.get, if_pos ⟨rfl, rfl⟩]
  have g2 : getS (moveP l sku loc q tw).1 sku loc = { getS l sku loc with f2 := (getS l sku loc).f2 - q } := by rw [M.get, if_neg (fun e => M.ne e.2.symm), if_pos ⟨rfl, rfl⟩]
  have hz := move_of hg.2.2 (hg.1 h) M.p' M.p M.q0 (fun e => M.ne e.symm) (by rw [g1]; show q ≤ (getS l sku tw).f2 + q - (getS l sku tw).f3; have := s2.2.1; omega) (by rw [g2]; show (getS l sku loc).f2 - q + q ≤ _; have := s1.2.2; omega)
  have B := move_ok hg.2.2 hz
  refine ⟨hz, May.ext ((move_good hg.2.2 sku tw q loc).1 hz) M.may (fun a b _ => ?_)⟩
  rw [B.get, g1, g2]
  by_cases h1 : a = sku ∧ b = loc
  · rw [if_pos h1, h1.1, h1.2]
    exact spot_ext rfl rfl (show (getS l sku loc).f2 - q + q = _ by omega) rfl
  · rw [if_neg h1]
    by_cases h2 : a = sku ∧ b = tw
    · rw [if_pos h2, h2.1, h2.2]
      exact spot_ext rfl rfl (show (getS l sku tw).f2 + q - q = _ by omega) rfl
    · rw [if_neg h2, M.get, if_neg h2, if_neg h1]
end Go.Proofs.Ytkhghabenhhhaaa.Stock
