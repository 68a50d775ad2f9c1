/- Stocks as rising lists: plain laws. No program in sight. -/
import Derived.Test.YtkhghabenhhhaaaStockFind
namespace Go.Proofs.Ytkhghabenhhhaaa.Stock
open Go.RowKit Go.Proofs.Ytkhghabenhhhaaa.Pa Go.Proofs.YtkhghabenhhhaaaW.PrintWords
set_option linter.unusedVariables false

def pairB (sku loc : Int) : Bool := decide (0 ≤ sku ∧ sku < 16 ∧ 0 ≤ loc ∧ loc < 4)
theorem pairB_iff {sku loc : Int} : pairB sku loc = true ↔ 0 ≤ sku ∧ sku < 16 ∧ 0 ≤ loc ∧ loc < 4 := by simp [pairB]
def ky (s : Spot) : Int := s.f0 * 4 + s.f1
def okS (s : Spot) : Bool := pairB s.f0 s.f1 && decide (0 < s.f2 ∧ 0 ≤ s.f3 ∧ s.f3 ≤ s.f2)
theorem okS_iff {s : Spot} : okS s = true ↔ (0 ≤ s.f0 ∧ s.f0 < 16 ∧ 0 ≤ s.f1 ∧ s.f1 < 4) ∧ 0 < s.f2 ∧ 0 ≤ s.f3 ∧ s.f3 ≤ s.f2 := by simp [okS, pairB_iff]
/-- Stocks that may be. -/
def May (l : List Spot) : Prop := (∀ s ∈ l, okS s = true) ∧ l.Pairwise (fun a b => ky a < ky b)
instance (l : List Spot) : Decidable (May l) := by unfold May; infer_instance
def mayB (l : List Spot) : Bool := decide (May l)
theorem mayB_iff {l : List Spot} : mayB l = true ↔ May l := by simp [mayB]
def keyB (sku loc : Int) (x : Spot) : Bool := x.f0 == sku && x.f1 == loc
theorem keyB_iff {sku loc : Int} {x : Spot} : keyB sku loc x = true ↔ x.f0 = sku ∧ x.f1 = loc := by simp [keyB]
def noS (sku loc : Int) : Spot := ⟨sku, loc, 0, 0⟩
/-- A spot of stocks. -/
def getS (l : List Spot) (sku loc : Int) : Spot := (l.find? (keyB sku loc)).getD (noS sku loc)
/-- Stocks with another spot. -/
def putS (l : List Spot) (s : Spot) : List Spot := l.filter (fun x => decide (ky x < ky s)) ++ ((if s.f2 = 0 then [] else [s]) ++ l.filter (fun x => decide (ky s < ky x)))

theorem May.nil : May [] := ⟨by simp, List.Pairwise.nil⟩
theorem getS_mem {l : List Spot} {x : Spot} (h : May l) (hx : x ∈ l) : getS l x.f0 x.f1 = x := by
  unfold getS
  cases hf : l.find? (keyB x.f0 x.f1) with
  | none =>
    have := List.find?_eq_none.1 hf x hx
    simp [keyB] at this
  | some y =>
    have h1 := List.mem_of_find?_eq_some hf
    have h2 := keyB_iff.1 (List.find?_some hf)
    show y = x
    obtain ⟨i, hi, rfl⟩ := List.getElem_of_mem h1
    obtain ⟨j, hj, rfl⟩ := List.getElem_of_mem hx
    have hk : ky l[i] = ky l[j] := by unfold ky; rw [h2.1, h2.2]
    have hp := List.pairwise_iff_getElem.1 h.2
    rcases Nat.lt_trichotomy i j with h3 | h3 | h3
    · have := hp i j hi hj h3; omega
    · subst h3; rfl
    · have := hp j i hj hi h3; omega
theorem getS_none {l : List Spot} {sku loc : Int} (h : ∀ x ∈ l, ¬ (x.f0 = sku ∧ x.f1 = loc)) : getS l sku loc = noS sku loc := by
  unfold getS
  have : l.find? (keyB sku loc) = none := List.find?_eq_none.2 (fun x hx hk => h x hx (keyB_iff.1 hk))
  rw [this]; rfl
theorem getS_cases (l : List Spot) (sku loc : Int) : (getS l sku loc ∈ l ∧ (getS l sku loc).f0 = sku ∧ (getS l sku loc).f1 = loc) ∨ (getS l sku loc = noS sku loc ∧ ∀ x ∈ l, ¬ (x.f0 = sku ∧ x.f1 = loc)) := by
  unfold getS
  cases hf : l.find? (keyB sku loc) with
  | none => exact .inr ⟨rfl, fun x hx hk => List.find?_eq_none.1 hf x hx (keyB_iff.2 hk)⟩
  | some y => exact .inl ⟨List.mem_of_find?_eq_some hf, keyB_iff.1 (List.find?_some hf)⟩
theorem getS_key (l : List Spot) (sku loc : Int) : (getS l sku loc).f0 = sku ∧ (getS l sku loc).f1 = loc := by
  rcases getS_cases l sku loc with h | h
  · exact h.2
  · rw [h.1]; exact ⟨rfl, rfl⟩
theorem getS_fine {l : List Spot} (h : May l) (sku loc : Int) : 0 ≤ (getS l sku loc).f3 ∧ (getS l sku loc).f3 ≤ (getS l sku loc).f2 := by
  rcases getS_cases l sku loc with g | g
  · exact (okS_iff.1 (h.1 _ g.1)).2.2
  · rw [g.1]; exact ⟨Int.le_refl _, Int.le_refl _⟩
theorem ky_inj {a b : Spot} (ha : 0 ≤ a.f1 ∧ a.f1 < 4) (hb : 0 ≤ b.f1 ∧ b.f1 < 4) (h : ky a = ky b) : a.f0 = b.f0 ∧ a.f1 = b.f1 := by
  unfold ky at h; omega
/-! #### Where a search ends -/
theorem ordc_lt {x : Spot} {sku loc : Int} (hx : okS x = true) (hp : pairB sku loc = true) : (ordc x sku loc < 0 ↔ ky x < sku * 4 + loc) ∧ (ordc x sku loc = 0 ↔ ky x = sku * 4 + loc) := by
  have h1 := (okS_iff.1 hx).1
  have h2 := pairB_iff.1 hp
  unfold ordc ky
  split
  · have : wrap64 (x.f1 - loc) = x.f1 - loc := by unfold wrap64; omega
    rw [this]; omega
  · have : wrap64 (x.f0 - sku) = x.f0 - sku := by unfold wrap64; omega
    rw [this]; omega
theorem ordc_zero {x : Spot} {sku loc : Int} (hx : okS x = true) (h0 : -9223372036854775808 ≤ sku) (h1 : sku < 9223372036854775808) (h2 : -9223372036854775808 ≤ loc) (h3 : loc < 9223372036854775808) : ordc x sku loc = 0 ↔ x.f0 = sku ∧ x.f1 = loc := by
  have h4 := (okS_iff.1 hx).1
  unfold ordc wrap64
  split <;> omega
theorem rd_getElem {l : List Spot} {i : Nat} (h : i < l.length) : rd_T37 l (i : Int) = l[i] := by simp [rd_T37, h]
theorem foundB_iff {l : List Spot} {sku loc : Int} {i : Nat} : foundB l sku loc i = true ↔ i < l.length ∧ ordc (rd_T37 l i) sku loc = 0 := by simp [foundB]
/-- The place where a pair's spot stands, or would. -/
structure Place (l : List Spot) (sku loc : Int) (i : Nat) (is : Bool) : Prop where
  le : i ≤ l.length
  ahead : l.take i = l.filter (fun x => decide (ky x < sku * 4 + loc))
  here : is = true → i < l.length ∧ l.drop (i + 1) = l.filter (fun x => decide (sku * 4 + loc < ky x)) ∧ (rd_T37 l i).f0 = sku ∧ (rd_T37 l i).f1 = loc
  gone : is = false → l.drop i = l.filter (fun x => decide (sku * 4 + loc < ky x)) ∧ getS l sku loc = noS sku loc
theorem filter_take {l : List Spot} {p : Spot → Bool} {i : Nat} (hi : i ≤ l.length) (h1 : ∀ j (hj : j < l.length), j < i → p l[j] = true) (h2 : ∀ j (hj : j < l.length), i ≤ j → p l[j] = false) : l.filter p = l.take i := by
  conv => lhs; rw [← List.take_append_drop i l]
  rw [List.filter_append]
  have a1 : (l.take i).filter p = l.take i := List.filter_eq_self.2 (fun x hx => by
    obtain ⟨j, hj, rfl⟩ := List.getElem_of_mem hx
    rw [List.getElem_take]
    have : j < i := by rw [List.length_take] at hj; omega
    exact h1 j (by omega) this)
  have a2 : (l.drop i).filter p = [] := List.filter_eq_nil_iff.2 (fun x hx => by
    obtain ⟨j, hj, rfl⟩ := List.getElem_of_mem hx
    rw [List.getElem_drop]
    rw [List.length_drop] at hj
    rw [h2 (i + j) (by omega) (by omega)]
    simp)
  rw [a1, a2, List.append_nil]
theorem filter_drop {l : List Spot} {p : Spot → Bool} {i : Nat} (hi : i ≤ l.length) (h1 : ∀ j (hj : j < l.length), j < i → p l[j] = false) (h2 : ∀ j (hj : j < l.length), i ≤ j → p l[j] = true) : l.filter p = l.drop i := by
  conv => lhs; rw [← List.take_append_drop i l]
  rw [List.filter_append]
  have a1 : (l.take i).filter p = [] := List.filter_eq_nil_iff.2 (fun x hx => by
    obtain ⟨j, hj, rfl⟩ := List.getElem_of_mem hx
    rw [List.getElem_take]
    have : j < i := by rw [List.length_take] at hj; omega
    rw [h1 j (by omega) this]; simp)
  have a2 : (l.drop i).filter p = l.drop i := List.filter_eq_self.2 (fun x hx => by
    obtain ⟨j, hj, rfl⟩ := List.getElem_of_mem hx
    rw [List.getElem_drop]
    rw [List.length_drop] at hj
    exact h2 (i + j) (by omega) (by omega))
  rw [a1, a2, List.nil_append]
theorem Found.place {l : List Spot} {sku loc : Int} {i : Nat} (h : May l) (hp : pairB sku loc = true) (hf : Found l sku loc i) : Place l sku loc i (foundB l sku loc i) := by
  have hpw := List.pairwise_iff_getElem.1 h.2
  have hmono : ∀ a b (ha : a < l.length) (hb : b < l.length), a ≤ b → ky l[a] ≤ ky l[b] := fun a b ha hb hab => by
    rcases Nat.lt_or_ge a b with h1 | h1
    · exact Int.le_of_lt (hpw a b ha hb h1)
    · have : a = b := by omega
      subst this; exact Int.le_refl _
  have hok : ∀ a (ha : a < l.length), okS l[a] = true := fun a ha => h.1 _ (List.getElem_mem ha)
  have hlo : ∀ j (hj : j < l.length), j < i → ky l[j] < sku * 4 + loc := fun j hj hji => by
    rcases hf.lo with h0 | h0
    · omega
    · have e : ((i : Int) - 1) = ((i - 1 : Nat) : Int) := by omega
      have hi1 : i - 1 < l.length := by have := hf.le; omega
      rw [e, rd_getElem hi1] at h0
      have := (ordc_lt (hok _ hi1) hp).1.1 h0
      have := hmono j (i - 1) hj hi1 (by omega)
      omega
  have hhi : ∀ j (hj : j < l.length), i ≤ j → sku * 4 + loc ≤ ky l[j] := fun j hj hji => by
    rcases hf.hi with h0 | h0
    · omega
    · have hi1 : i < l.length := by omega
      rw [rd_getElem hi1] at h0
      have h2 := (ordc_lt (hok _ hi1) hp).1
      have := hmono i j hi1 hj hji
      have : ¬ ky l[i] < sku * 4 + loc := fun hlt => by have := h2.2 hlt; omega
      omega
  refine ⟨hf.le, ?_, fun hb => ?_, fun hb => ?_⟩
  · exact (filter_take hf.le (fun j hj h1 => decide_eq_true (hlo j hj h1)) (fun j hj h1 => decide_eq_false (by have := hhi j hj h1; omega))).symm
  · obtain ⟨hi1, h0⟩ := foundB_iff.1 hb
    have hz := (ordc_lt (hok i hi1) hp).2
    rw [rd_getElem hi1] at h0 ⊢
    have hk := hz.1 h0
    have h2 := pairB_iff.1 hp
    have h3 := (okS_iff.1 (hok i hi1)).1
    refine ⟨hi1, (filter_drop (by omega) (fun j hj h1 => decide_eq_false ?_) (fun j hj h1 => decide_eq_true ?_)).symm, ?_⟩
    · have := hmono j i hj hi1 (by omega); omega
    · have := hpw i j hi1 hj (by omega); omega
    · unfold ky at hk; omega
  · have hne : ∀ j (hj : j < l.length), ky l[j] ≠ sku * 4 + loc := fun j hj hk => by
      rcases Nat.lt_or_ge j i with h1 | h1
      · have := hlo j hj h1; omega
      · have hi1 : i < l.length := by omega
        have h4 : ky l[i] = sku * 4 + loc := by have := hhi i hi1 (Nat.le_refl _); have := hmono i j hi1 hj h1; omega
        have : foundB l sku loc i = true := foundB_iff.2 ⟨hi1, by rw [rd_getElem hi1]; exact (ordc_lt (hok i hi1) hp).2.2 h4⟩
        rw [this] at hb; cases hb
    refine ⟨(filter_drop hf.le (fun j hj h1 => decide_eq_false (by have := hlo j hj h1; omega)) (fun j hj h1 => decide_eq_true (by have := hhi j hj h1; have := hne j hj; omega))).symm, getS_none (fun x hx hk => ?_)⟩
    obtain ⟨j, hj, rfl⟩ := List.getElem_of_mem hx
    exact hne j hj (by unfold ky; rw [hk.1, hk.2])
/-- What 'at' tells. -/
theorem Found.at_ {l : List Spot} {sku loc : Int} {i : Nat} (h : May l) (hf : Found l sku loc i) (h0 : -9223372036854775808 ≤ sku) (h1 : sku < 9223372036854775808) (h2 : -9223372036854775808 ≤ loc) (h3 : loc < 9223372036854775808) : getS l sku loc = if foundB l sku loc i then rd_T37 l i else noS sku loc := by
  by_cases hb : foundB l sku loc i = true
  · rw [if_pos hb]
    obtain ⟨hi1, hz⟩ := foundB_iff.1 hb
    rw [rd_getElem hi1] at hz ⊢
    have := (ordc_zero (h.1 _ (List.getElem_mem hi1)) h0 h1 h2 h3).1 hz
    rw [← this.1, ← this.2]
    exact getS_mem h (List.getElem_mem hi1)
  · rw [if_neg hb]
    by_cases hp : pairB sku loc = true
    · exact ((hf.place h hp).gone (by simpa using hb)).2
    · refine getS_none (fun x hx hk => hp (pairB_iff.2 ?_))
      have := (okS_iff.1 (h.1 x hx)).1
      rw [hk.1, hk.2] at this
      exact this
end Go.Proofs.Ytkhghabenhhhaaa.Stock
