/- Stocks: what calls answer, as plain laws. No program in sight. -/
import Derived.Test.YtkhghabenhhhaaaStockExt
namespace Go.Proofs.Ytkhghabenhhhaaa.Stock
open Go.RowKit Go.Proofs.Ytkhghabenhhhaaa.Pa Go.Proofs.YtkhghabenhhhaaaW.PrintWords
set_option linter.unusedVariables false

theorem fine_zero {s : Spot} (hs : fineS s) (h : s.f2 = 0) : s = noS s.f0 s.f1 := by
  have h1 := hs.2.1
  have h2 := hs.2.2
  obtain ⟨a, b, c, d⟩ := s
  have hd : d = 0 := by simp only at h h1 h2; omega
  have hc : c = 0 := h
  subst hc; subst hd; rfl
theorem get_put {l : List Spot} {s : Spot} (h : May l) (hs : fineS s) (sku loc : Int) : getS (putS l s) sku loc = if sku = s.f0 ∧ loc = s.f1 then s else getS l sku loc := by
  rw [getS_put h hs]
  by_cases h1 : sku = s.f0 ∧ loc = s.f1
  · rw [if_pos h1, if_pos h1]
    by_cases h2 : s.f2 = 0
    · rw [if_pos h2, h1.1, h1.2]; exact (fine_zero hs h2).symm
    · rw [if_neg h2]
  · rw [if_neg h1, if_neg h1]
theorem get_fine {l : List Spot} (h : May l) {sku loc : Int} (hp : pairB sku loc = true) : fineS (getS l sku loc) := by
  have h1 := getS_key l sku loc
  exact ⟨by rw [h1.1, h1.2]; exact hp, getS_fine h sku loc⟩
theorem known_zero {l : List Spot} {a b : Int} (h : May l) (hp : pairB a b = true) : knownP l a b = 0 := by
  unfold knownP; rw [if_pos (mayB_iff.2 h), if_pos hp]
/-! #### A spot turned -/
/-- A turn that keeps the key, and what is right. -/
structure Turns (F : Spot → Int × Spot) : Prop where
  key : ∀ x, (F x).2.f0 = x.f0 ∧ (F x).2.f1 = x.f1
  fine : ∀ x, sound x → (F x).1 = 0 → 0 ≤ (F x).2.f3 ∧ (F x).2.f3 ≤ (F x).2.f2
  lim : ∀ x, sound x → (F x).2.f2 < 9223372036854775808
theorem turned_ok {F : Spot → Int × Spot} {l : List Spot} {sku loc qty : Int} (h : (turnedP F l sku loc qty).2 = 0) : May l ∧ pairB sku loc = true ∧ 0 < qty ∧ (F (getS l sku loc)).1 = 0 ∧ turnedP F l sku loc qty = (putS l (F (getS l sku loc)).2, 0) := by
  unfold turnedP at h ⊢
  by_cases h1 : knownP l sku loc = 0
  · rw [if_pos h1] at h ⊢
    by_cases h2 : qty ≤ 0
    · rw [if_pos h2] at h; exact absurd h (by decide)
    · rw [if_neg h2] at h ⊢
      by_cases h3 : (F (getS l sku loc)).1 = 0
      · rw [if_pos h3]
        exact ⟨(knownP_zero h1).1, (knownP_zero h1).2, by omega, h3, rfl⟩
      · rw [if_neg h3] at h; exact absurd h h3
  · rw [if_neg h1] at h; exact absurd h h1
theorem turned_of {F : Spot → Int × Spot} {l : List Spot} {sku loc qty : Int} (hm : May l) (hp : pairB sku loc = true) (hq : 0 < qty) (h : (F (getS l sku loc)).1 = 0) : turnedP F l sku loc qty = (putS l (F (getS l sku loc)).2, 0) := by
  unfold turnedP
  rw [if_pos (known_zero hm hp), if_neg (by omega), if_pos h]
/-- An answer: stocks that may be, or an error and nothing. -/
def Good (r : List Spot × Int) : Prop := (r.2 = 0 → May r.1) ∧ (r.2 ≠ 0 → r.1 = []) ∧ Lim r.1
theorem turned_fine {F : Spot → Int × Spot} (hF : Turns F) {l : List Spot} {sku loc : Int} (hm : May l) (hl : Lim l) (hp : pairB sku loc = true) (h : (F (getS l sku loc)).1 = 0) : fineS (F (getS l sku loc)).2 := by
  have h1 := getS_key l sku loc
  have h2 := hF.key (getS l sku loc)
  refine ⟨?_, hF.fine _ (getS_sound hm hl sku loc) h⟩
  rw [h2.1, h2.2, h1.1, h1.2]; exact hp
theorem turned_good {F : Spot → Int × Spot} (hF : Turns F) {l : List Spot} (hl : Lim l) (sku loc qty : Int) : Good (turnedP F l sku loc qty) := by
  refine ⟨fun h => ?_, fun h => ?_, hl.turned hF.lim sku loc qty⟩
  · obtain ⟨hm, hp, hq, h1, h2⟩ := turned_ok h
    rw [h2]; exact hm.put (turned_fine hF hm hl hp h1)
  · unfold turnedP at h ⊢
    by_cases h1 : knownP l sku loc = 0
    · rw [if_pos h1] at h ⊢
      by_cases h2 : qty ≤ 0
      · rw [if_pos h2]
      · rw [if_neg h2] at h ⊢
        by_cases h3 : (F (getS l sku loc)).1 = 0
        · rw [if_pos h3] at h; exact absurd rfl h
        · rw [if_neg h3]
    · rw [if_neg h1]
/-- What stands where, when a spot was turned. -/
theorem turned_get {F : Spot → Int × Spot} (hF : Turns F) {l : List Spot} (hl : Lim l) {sku loc qty : Int} (h : (turnedP F l sku loc qty).2 = 0) (a b : Int) : getS (turnedP F l sku loc qty).1 a b = if a = sku ∧ b = loc then (F (getS l sku loc)).2 else getS l a b := by
  obtain ⟨hm, hp, hq, h1, h2⟩ := turned_ok h
  have h3 := getS_key l sku loc
  have h4 := hF.key (getS l sku loc)
  rw [h2, get_put hm (turned_fine hF hm hl hp h1), h4.1, h4.2, h3.1, h3.2]
/-! #### The five turns -/
theorem add_zero {a b : Int} (h : (addP a b).2 = 0) : 0 ≤ a ∧ 0 ≤ b ∧ a + b ≤ 9223372036854775807 ∧ addP a b = (a + b, 0) := by
  unfold addP at h ⊢
  by_cases h1 : a < 0 ∨ b < 0
  · rw [if_pos h1] at h; exact absurd h (by decide)
  · rw [if_neg h1] at h ⊢
    by_cases h2 : 9223372036854775807 < a + b
    · rw [if_pos h2] at h; exact absurd h (by decide)
    · rw [if_neg h2]; exact ⟨by omega, by omega, by omega, rfl⟩
theorem add_of {a b : Int} (h0 : 0 ≤ a) (h1 : 0 ≤ b) (h2 : a + b ≤ 9223372036854775807) : addP a b = (a + b, 0) := by
  unfold addP; rw [if_neg (by omega), if_neg (by omega)]
theorem add_lim (a b : Int) : (addP a b).1 < 9223372036854775808 := by
  unfold addP
  split
  · decide
  · split
    · decide
    · show a + b < _; omega
theorem sub_zero {a b : Int} (h : (subP a b).2 = 0) : 0 ≤ b ∧ b ≤ a ∧ subP a b = (a - b, 0) := by
  unfold subP at h ⊢
  by_cases h1 : a < 0 ∨ b < 0
  · rw [if_pos h1] at h; exact absurd h (by decide)
  · rw [if_neg h1] at h ⊢
    by_cases h2 : a < b
    · rw [if_pos h2] at h; exact absurd h (by decide)
    · rw [if_neg h2]; exact ⟨by omega, by omega, rfl⟩
theorem sub_of {a b : Int} (h0 : 0 ≤ b) (h1 : b ≤ a) : subP a b = (a - b, 0) := by
  unfold subP; rw [if_neg (by omega), if_neg (by omega)]
theorem less_zero {q : Int} {x : Spot} (h : (lessF q x).1 = 0) : q ≤ x.f2 - x.f3 ∧ lessF q x = (0, { x with f2 := x.f2 - q }) := by
  unfold lessF at h ⊢
  by_cases h1 : x.f2 - x.f3 < q
  · rw [if_pos h1] at h; exact absurd h (show ¬ ((31 : Int) = 0) by decide)
  · rw [if_neg h1]; exact ⟨by omega, rfl⟩
theorem less_of {q : Int} {x : Spot} (h : q ≤ x.f2 - x.f3) : lessF q x = (0, { x with f2 := x.f2 - q }) := by
  unfold lessF; rw [if_neg (by omega)]
theorem hold_zero {q : Int} {x : Spot} (h : (holdF q x).1 = 0) : q ≤ x.f2 - x.f3 ∧ holdF q x = (0, { x with f3 := x.f3 + q }) := by
  unfold holdF at h ⊢
  by_cases h1 : x.f2 - x.f3 < q
  · rw [if_pos h1] at h; exact absurd h (show ¬ ((31 : Int) = 0) by decide)
  · rw [if_neg h1]; exact ⟨by omega, rfl⟩
theorem hold_of {q : Int} {x : Spot} (h : q ≤ x.f2 - x.f3) : holdF q x = (0, { x with f3 := x.f3 + q }) := by
  unfold holdF; rw [if_neg (by omega)]
theorem take_zero {q : Int} {x : Spot} (h : (takeF q x).1 = 0) : x.f2 + q ≤ 9223372036854775807 ∧ 0 ≤ q ∧ takeF q x = (0, { x with f2 := x.f2 + q }) := by
  have h1 := add_zero h
  refine ⟨h1.2.2.1, h1.2.1, ?_⟩
  unfold takeF; rw [h1.2.2.2]
theorem take_of {q : Int} {x : Spot} (h0 : 0 ≤ x.f2) (h1 : 0 ≤ q) (h : x.f2 + q ≤ 9223372036854775807) : takeF q x = (0, { x with f2 := x.f2 + q }) := by
  unfold takeF; rw [add_of h0 h1 h]
theorem free_zero {q : Int} {x : Spot} (h : (freeF q x).1 = 0) : 0 ≤ q ∧ q ≤ x.f3 ∧ freeF q x = (0, { x with f3 := x.f3 - q }) := by
  have h1 := sub_zero h
  refine ⟨h1.1, h1.2.1, ?_⟩
  unfold freeF; rw [h1.2.2]
theorem free_of {q : Int} {x : Spot} (h0 : 0 ≤ q) (h : q ≤ x.f3) : freeF q x = (0, { x with f3 := x.f3 - q }) := by
  unfold freeF; rw [sub_of h0 h]
theorem ship_zero {q : Int} {x : Spot} (h : (shipF q x).1 = 0) : 0 ≤ q ∧ q ≤ x.f3 ∧ shipF q x = (0, { x with f3 := x.f3 - q, f2 := x.f2 - q }) := by
  have h1 := sub_zero h
  refine ⟨h1.1, h1.2.1, ?_⟩
  unfold shipF; rw [h1.2.2]
theorem ship_of {q : Int} {x : Spot} (h0 : 0 ≤ q) (h : q ≤ x.f3) : shipF q x = (0, { x with f3 := x.f3 - q, f2 := x.f2 - q }) := by
  unfold shipF; rw [sub_of h0 h]
theorem takeF_turns (q : Int) : Turns (takeF q) := ⟨takeF_key q, fun x hx h => by
  obtain ⟨h1, h2, h3⟩ := take_zero h
  rw [h3]; have := hx.1; have := hx.2.1; exact ⟨by show 0 ≤ x.f3; omega, by show x.f3 ≤ x.f2 + q; omega⟩, fun x hx => add_lim _ _⟩
theorem lessF_turns {q : Int} (hq : 0 < q) : Turns (lessF q) := ⟨lessF_key q, fun x hx h => by
  obtain ⟨h1, h3⟩ := less_zero h
  rw [h3]; have := hx.1; have := hx.2.1; exact ⟨by show 0 ≤ x.f3; omega, by show x.f3 ≤ x.f2 - q; omega⟩, fun x hx => lessF_lim hq x hx⟩
theorem holdF_turns {q : Int} (hq : 0 < q) : Turns (holdF q) := ⟨holdF_key q, fun x hx h => by
  obtain ⟨h1, h3⟩ := hold_zero h
  rw [h3]; have := hx.1; have := hx.2.1; exact ⟨by show 0 ≤ x.f3 + q; omega, by show x.f3 + q ≤ x.f2; omega⟩, fun x hx => holdF_lim x hx⟩
theorem freeF_turns (q : Int) : Turns (freeF q) := ⟨freeF_key q, fun x hx h => by
  obtain ⟨h1, h2, h3⟩ := free_zero h
  rw [h3]; have := hx.1; have := hx.2.1; exact ⟨by show 0 ≤ x.f3 - q; omega, by show x.f3 - q ≤ x.f2; omega⟩, fun x hx => hx.2.2⟩
theorem shipF_turns {q : Int} (hq : 0 < q) : Turns (shipF q) := ⟨shipF_key q, fun x hx h => by
  obtain ⟨h1, h2, h3⟩ := ship_zero h
  rw [h3]; have := hx.1; have := hx.2.1; exact ⟨by show 0 ≤ x.f3 - q; omega, by show x.f3 - q ≤ x.f2 - q; omega⟩, fun x hx => by have := hx.2.2; show x.f2 - q < _; omega⟩
/-- Where the quantity isn't one, no turn. -/
theorem turned_le {F : Spot → Int × Spot} {l : List Spot} {sku loc qty : Int} (h : ¬ 0 < qty) : (turnedP F l sku loc qty).2 ≠ 0 ∧ (turnedP F l sku loc qty).1 = [] := by
  unfold turnedP
  by_cases h1 : knownP l sku loc = 0
  · rw [if_pos h1, if_pos (by omega)]; exact ⟨by decide, rfl⟩
  · rw [if_neg h1]; exact ⟨h1, rfl⟩
theorem Good.err {e : Int} (h : e ≠ 0) : Good ([], e) := ⟨fun h1 => absurd h1 h, fun _ => rfl, Lim.nil⟩
theorem good_of_le {F : Spot → Int × Spot} {l : List Spot} {sku loc qty : Int} (h : ¬ 0 < qty) : Good (turnedP F l sku loc qty) := by
  obtain ⟨h1, h2⟩ := turned_le (F := F) (l := l) (sku := sku) (loc := loc) h
  obtain ⟨r, hr⟩ : ∃ r, r = turnedP F l sku loc qty := ⟨_, rfl⟩
  rw [← hr] at h1 h2 ⊢
  obtain ⟨a, b⟩ := r
  have : a = [] := h2
  subst this
  exact Good.err h1
theorem take_good {l : List Spot} (hl : Lim l) (sku loc qty : Int) : Good (turnedP (takeF qty) l sku loc qty) := turned_good (takeF_turns qty) hl _ _ _
theorem less_good {l : List Spot} (hl : Lim l) (sku loc qty : Int) : Good (turnedP (lessF qty) l sku loc qty) := by
  by_cases h : 0 < qty
  · exact turned_good (lessF_turns h) hl _ _ _
  · exact good_of_le h
theorem hold_good {l : List Spot} (hl : Lim l) (sku loc qty : Int) : Good (turnedP (holdF qty) l sku loc qty) := by
  by_cases h : 0 < qty
  · exact turned_good (holdF_turns h) hl _ _ _
  · exact good_of_le h
theorem free_good {l : List Spot} (hl : Lim l) (sku loc qty : Int) : Good (turnedP (freeF qty) l sku loc qty) := turned_good (freeF_turns qty) hl _ _ _
theorem ship_good {l : List Spot} (hl : Lim l) (sku loc qty : Int) : Good (turnedP (shipF qty) l sku loc qty) := by
  by_cases h : 0 < qty
  · exact turned_good (shipF_turns h) hl _ _ _
  · exact good_of_le h
theorem adjust_good {l : List Spot} (hl : Lim l) (sku loc qty : Int) : Good (adjustP l sku loc qty) := by
  unfold adjustP
  by_cases h : 0 ≤ qty
  · rw [if_pos h]; exact take_good hl _ _ _
  · rw [if_neg h]
    by_cases h1 : knownP l sku loc = 0
    · rw [if_pos h1]
      by_cases h2 : qty = -9223372036854775808
      · rw [if_pos h2]; exact Good.err (by decide)
      · rw [if_neg h2]; exact less_good hl _ _ _
    · rw [if_neg h1]; exact Good.err h1
theorem move_good {l : List Spot} (hl : Lim l) (sku loc qty tw : Int) : Good (moveP l sku loc qty tw) := by
  unfold moveP
  by_cases h1 : knownP l sku loc = 0
  · rw [if_pos h1]
    by_cases h2 : pairB sku tw = true
    · rw [if_pos h2]
      by_cases h3 : qty ≤ 0 ∨ tw = loc
      · rw [if_pos h3]; exact Good.err (by decide)
      · rw [if_neg h3]
        by_cases h4 : (turnedP (lessF qty) l sku loc qty).2 = 0
        · rw [if_pos h4]; exact take_good (less_good hl _ _ _).2.2 _ _ _
        · rw [if_neg h4]; exact Good.err h4
    · rw [if_neg h2]; exact Good.err (by decide)
  · rw [if_neg h1]; exact Good.err h1
theorem holdL_good : ∀ (m : List Line) {l : List Spot}, May l → Lim l → Good (holdL l m)
  | [], l, hm, hl => ⟨fun _ => hm, fun h => absurd rfl h, hl⟩
  | x :: r, l, hm, hl => by
    unfold holdL
    have hg := hold_good hl x.f0 x.f1 x.f2
    by_cases h : (turnedP (holdF x.f2) l x.f0 x.f1 x.f2).2 = 0
    · rw [if_pos h]; exact holdL_good r (hg.1 h) hg.2.2
    · rw [if_neg h]; exact Good.err h
theorem holdP_good {l : List Spot} (hl : Lim l) (m : List Line) : Good (holdP l m) := by
  unfold holdP
  by_cases h : mayB l = true
  · rw [if_pos h]
    by_cases h1 : m.any noPair = true
    · rw [if_pos h1]; exact Good.err (by decide)
    · rw [if_neg h1]
      by_cases h2 : m.length = 0 ∨ 4 < m.length ∨ m.any noQty = true
      · rw [if_pos h2]; exact Good.err (by decide)
      · rw [if_neg h2]; exact holdL_good m (mayB_iff.1 h) hl
  · rw [if_neg h]; exact Good.err (by decide)
end Go.Proofs.Ytkhghabenhhhaaa.Stock
