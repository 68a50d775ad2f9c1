/- Stocks that may be, by the code and by the document; sums and differences: the plain functions. No program in sight. -/
import Derived.Test.YtkhghabenhhhaaaStockPutW
import Derived.Test.YtkhghabenhhhaaaPa5
namespace Go.Proofs.Ytkhghabenhhhaaa.Stock
open Go.RowKit Go.Proofs.Ytkhghabenhhhaaa.Pa Go.Proofs.YtkhghabenhhhaaaW.PrintWords
set_option linter.unusedVariables false

theorem w64 {x : Int} (h0 : -9223372036854775808 ≤ x) (h1 : x < 9223372036854775808) : wrap64 x = x := by unfold wrap64; omega
theorem pair_f (a b : Int) : stock_pair.f a b = some (pairB a b) := by
  unfold stock_pair.f pairB
  by_cases h1 : a ≥ 0
  · rw [if_pos h1]
    by_cases h2 : a < 16
    · rw [if_pos h2]
      by_cases h3 : b ≥ 0
      · rw [if_pos h3]; congr 1; exact decide_eq_decide.2 (by omega)
      · rw [if_neg h3]; congr 1; exact (decide_eq_false (by omega)).symm
    · rw [if_neg h2]; congr 1; exact (decide_eq_false (by omega)).symm
  · rw [if_neg h1]; congr 1; exact (decide_eq_false (by omega)).symm
theorem Pair_f (a b : Int) : quartermasterref17_Pair.f a b = some (pairB a b) := pair_f a b
def step (l : List Spot) (i : Nat) : Bool := okS (rd_T37 l i) && (decide (i = 0) || decide (ky (rd_T37 l ((i : Int) - 1)) < ky (rd_T37 l i)))
theorem rd_prev {l : List Spot} {i : Nat} (h0 : 0 < i) (h : i < l.length) : rd_T37 l ((i : Int) - 1) = l[i - 1] := by
  rw [show ((i : Int) - 1) = ((i - 1 : Nat) : Int) by omega, rd_getElem (by omega)]
theorem step_iff {l : List Spot} : May l ↔ ∀ i, i < l.length → step l i = true := by
  constructor
  · intro h i hi
    unfold step
    rw [rd_getElem hi, h.1 _ (List.getElem_mem hi), Bool.true_and]
    by_cases h0 : i = 0
    · rw [decide_eq_true h0, Bool.true_or]
    · rw [rd_prev (by omega) hi, decide_eq_true (List.pairwise_iff_getElem.1 h.2 (i - 1) i (by omega) hi (by omega)), Bool.or_true]
  · intro h
    have hs : ∀ i (hi : i < l.length), okS l[i] = true ∧ (0 < i → ky l[i - 1] < ky l[i]) := fun i hi => by
      have := h i hi
      unfold step at this
      rw [rd_getElem hi] at this
      simp only [Bool.and_eq_true, Bool.or_eq_true, decide_eq_true_eq] at this
      refine ⟨this.1, fun h0 => ?_⟩
      rcases this.2 with h1 | h1
      · omega
      · rwa [rd_prev h0 hi] at h1
    refine ⟨fun s hm => ?_, List.pairwise_iff_getElem.2 (fun i j hi hj hij => ?_)⟩
    · obtain ⟨i, hi, rfl⟩ := List.getElem_of_mem hm
      exact (hs i hi).1
    · have : ∀ d i (hi : i < l.length) (hd : i + d + 1 < l.length), ky l[i] < ky l[i + d + 1] := by
        intro d
        induction d with
        | zero => intro i hi hd; exact (hs (i + 1) hd).2 (by omega)
        | succ d ih =>
          intro i hi hd
          have h1 := ih i hi (by omega)
          have h2 := (hs (i + (d + 1) + 1) hd).2 (by omega)
          have e : ky l[i + (d + 1) + 1 - 1] = ky l[i + d + 1] := rfl
          omega
      obtain ⟨d, rfl⟩ : ∃ d, j = i + d + 1 := ⟨j - i - 1, by omega⟩
      exact this d i hi hj
theorem mayB_range (l : List Spot) : mayB l = (List.range' 0 l.length).all (step l) := by
  unfold mayB
  rw [Bool.eq_iff_iff, decide_eq_true_eq, step_iff, List.all_eq_true]
  constructor
  · intro h i hi
    have := List.mem_range'_1.1 hi
    exact h i (by omega)
  · intro h i hi
    exact h i (List.mem_range'_1.2 (by omega))
theorem wi {i : Nat} (h : i < 1000000000000) : wrap64 ((i : Int) + 1) = ((i + 1 : Nat) : Int) := by unfold wrap64; omega
theorem wd {i : Nat} (h0 : 0 < i) (h : i < 1000000000000) : wrap64 ((i : Int) - 1) = (i : Int) - 1 := by unfold wrap64; omega
theorem okS_split (x : Spot) : okS x = (pairB x.f0 x.f1 && (decide (0 < x.f2) && (decide (0 ≤ x.f3) && decide (x.f3 ≤ x.f2)))) := by
  unfold okS
  rw [Bool.decide_and, Bool.decide_and]
theorem order_ge {a b : Spot} (ha : okS a = true) (hb : okS b = true) : (if a.f0 = b.f0 then wrap64 (a.f1 - b.f1) else wrap64 (a.f0 - b.f0)) ≥ 0 ↔ ¬ ky a < ky b := by
  have h1 := (okS_iff.1 ha).1
  have h2 := (okS_iff.1 hb).1
  unfold ky
  split
  · rw [w64 (by omega) (by omega)]; omega
  · rw [w64 (by omega) (by omega)]; omega
theorem may_l {l : List Spot} (hl : l.length ≤ 999999999999) (d : Nat) : ∀ (k i : Nat), i + d = l.length → d < k → (∀ j, j < i → okS (rd_T37 l (j : Int)) = true) →
    stock_May.l0 k l l (l.length : Int) i = some ((List.range' i d).all (step l)) := by
  induction d with
  | zero =>
    intro k i h hk hp
    obtain ⟨k, rfl⟩ : ∃ m, k = m + 1 := ⟨k - 1, by omega⟩
    simp only [stock_May.l0]
    rw [if_neg (by omega)]
    rfl
  | succ d ih =>
    intro k i h hk hp
    obtain ⟨k, rfl⟩ : ∃ m, k = m + 1 := ⟨k - 1, by omega⟩
    rw [List.range'_succ, List.all_cons]
    simp only [stock_May.l0]
    rw [if_pos (by omega), if_pos (by omega), if_pos (by omega), pair_f]
    simp only [Option.bind_some]
    have hst : step l i = (okS (rd_T37 l i) && (decide (i = 0) || decide (ky (rd_T37 l ((i : Int) - 1)) < ky (rd_T37 l i)))) := rfl
    rw [okS_split] at hst
    by_cases h1 : pairB (rd_T37 l i).f0 (rd_T37 l i).f1 = true
    · rw [if_pos h1]
      by_cases h2 : (rd_T37 l i).f2 ≤ 0
      · rw [if_pos h2, hst, decide_eq_false (by omega : ¬ 0 < (rd_T37 l i).f2)]; simp
      · rw [if_neg h2]
        by_cases h3 : (rd_T37 l i).f3 < 0
        · rw [if_pos h3, hst, decide_eq_false (by omega : ¬ 0 ≤ (rd_T37 l i).f3)]; simp
        · rw [if_neg h3]
          by_cases h4 : (rd_T37 l i).f3 > (rd_T37 l i).f2
          · rw [if_pos h4, hst, decide_eq_false (by omega : ¬ (rd_T37 l i).f3 ≤ (rd_T37 l i).f2)]; simp
          · rw [if_neg h4]
            have hok : okS (rd_T37 l i) = true := by rw [okS_split, h1, decide_eq_true (by omega : 0 < (rd_T37 l i).f2), decide_eq_true (by omega : 0 ≤ (rd_T37 l i).f3), decide_eq_true (by omega : (rd_T37 l i).f3 ≤ (rd_T37 l i).f2)]; rfl
            have hst2 : step l i = (decide (i = 0) || decide (ky (rd_T37 l ((i : Int) - 1)) < ky (rd_T37 l i))) := by unfold step; rw [hok, Bool.true_and]
            have hrec := ih k (i + 1) (by omega) (by omega) (fun j hj => by
              rcases Nat.lt_or_ge j i with h5 | h5
              · exact hp j h5
              · obtain rfl : j = i := by omega
                exact hok)
            by_cases h5 : (i : Int) > 0
            · rw [if_pos h5, wd (by omega) (by omega), if_pos (by omega), if_pos (by omega)]
              have hpr := hp (i - 1) (by omega)
              rw [show ((i - 1 : Nat) : Int) = (i : Int) - 1 by omega] at hpr
              have hord := order_ge hpr hok
              have hof : stock_order.f (rd_T37 l ((i : Int) - 1)).f0 (rd_T37 l ((i : Int) - 1)).f1 (rd_T37 l ((i : Int) - 1)).f2 (rd_T37 l ((i : Int) - 1)).f3 (rd_T37 l i).f0 (rd_T37 l i).f1 (rd_T37 l i).f2 (rd_T37 l i).f3 = some (if (rd_T37 l ((i : Int) - 1)).f0 = (rd_T37 l i).f0 then wrap64 ((rd_T37 l ((i : Int) - 1)).f1 - (rd_T37 l i).f1) else wrap64 ((rd_T37 l ((i : Int) - 1)).f0 - (rd_T37 l i).f0)) := by
                unfold stock_order.f; split <;> rfl
              rw [hof]
              simp only [Option.bind_some]
              by_cases h6 : ky (rd_T37 l ((i : Int) - 1)) < ky (rd_T37 l i)
              · rw [if_neg (fun hh => hord.1 hh h6), wi (by omega), hrec, hst2, decide_eq_true h6, Bool.or_true, Bool.true_and]
              · rw [if_pos (hord.2 h6), hst2, decide_eq_false h6, decide_eq_false (by omega : ¬ i = 0)]; rfl
            · rw [if_neg h5, wi (by omega), hrec, hst2, decide_eq_true (by omega : i = 0), Bool.true_or, Bool.true_and]
    · rw [if_neg h1, hst]
      have : pairB (rd_T37 l i).f0 (rd_T37 l i).f1 = false := by simpa using h1
      rw [this]; simp
theorem may_f {k : Nat} {l : List Spot} (hl : l.length ≤ 999999999999) (hk : l.length < k) : stock_May.f k l = some (mayB l) := by
  unfold stock_May.f
  rw [mayB_range]
  exact may_l hl l.length k 0 (by omega) hk (fun j hj => by omega)
/-- What is wrong with stocks, and with a pair. -/
def knownP (l : List Spot) (sku loc : Int) : Int := if mayB l = true then (if pairB sku loc = true then 0 else 3) else 1
theorem known_f {k : Nat} {l : List Spot} (hl : l.length ≤ 999999999999) (hk : l.length < k) (a b : Int) : stock_known.f k l a b = some (knownP l a b) := by
  unfold stock_known.f knownP
  rw [may_f hl hk, pair_f]
  simp only [Option.bind_some]
  split
  · split <;> rfl
  · rfl
theorem rmay_l {l : List Spot} (hl : l.length ≤ 999999999999) (d : Nat) : ∀ (k i : Nat), i + d = l.length → 2 * d < k → (∀ j, j < i → okS (rd_T37 l (j : Int)) = true) →
    quartermasterref17_May.l0 k l i = some ((List.range' i d).all (step l)) := by
  induction d with
  | zero =>
    intro k i h hk hp
    obtain ⟨k, rfl⟩ : ∃ m, k = m + 1 := ⟨k - 1, by omega⟩
    simp only [quartermasterref17_May.l0]
    rw [if_neg (by omega)]
    rfl
  | succ d ih =>
    intro k i h hk hp
    obtain ⟨k, rfl, hk1⟩ : ∃ m, k = m + 1 ∧ 1 ≤ m := ⟨k - 1, by omega, by omega⟩
    rw [List.range'_succ, List.all_cons]
    have hst : step l i = (okS (rd_T37 l i) && (decide (i = 0) || decide (ky (rd_T37 l ((i : Int) - 1)) < ky (rd_T37 l i)))) := rfl
    have hst3 := hst
    rw [okS_split] at hst
    have hj : ∀ b, quartermasterref17_May.j1 k l i b (rd_T37 l i).f0 (rd_T37 l i).f1 (rd_T37 l i).f2 (rd_T37 l i).f3 = (if b = true then some false else quartermasterref17_May.j1 k l i false (rd_T37 l i).f0 (rd_T37 l i).f1 (rd_T37 l i).f2 (rd_T37 l i).f3) := fun b => by
      cases b with
      | true => obtain ⟨k, rfl⟩ : ∃ m, k = m + 1 := ⟨k - 1, by omega⟩
                simp only [quartermasterref17_May.j1]; rfl
      | false => rfl
    simp only [quartermasterref17_May.l0]
    rw [if_pos (by omega), if_pos (by omega), Pair_f]
    simp only [Option.bind_some]
    rw [hj true, if_pos rfl]
    by_cases h1 : pairB (rd_T37 l i).f0 (rd_T37 l i).f1 = true
    · rw [if_pos h1]
      by_cases h2 : (rd_T37 l i).f2 < 1
      · rw [if_pos h2, hst, decide_eq_false (by omega : ¬ 0 < (rd_T37 l i).f2)]; simp
      · rw [if_neg h2]
        by_cases h3 : (rd_T37 l i).f3 < 0
        · rw [if_pos h3, hst, decide_eq_false (by omega : ¬ 0 ≤ (rd_T37 l i).f3)]; simp
        · rw [if_neg h3, hj]
          by_cases h4 : (rd_T37 l i).f3 > (rd_T37 l i).f2
          · rw [if_pos (decide_eq_true h4), hst, decide_eq_false (by omega : ¬ (rd_T37 l i).f3 ≤ (rd_T37 l i).f2)]; simp
          · rw [if_neg (by simpa using h4)]
            have hok : okS (rd_T37 l i) = true := by rw [okS_split, h1, decide_eq_true (by omega : 0 < (rd_T37 l i).f2), decide_eq_true (by omega : 0 ≤ (rd_T37 l i).f3), decide_eq_true (by omega : (rd_T37 l i).f3 ≤ (rd_T37 l i).f2)]; rfl
            have hst2 : step l i = (decide (i = 0) || decide (ky (rd_T37 l ((i : Int) - 1)) < ky (rd_T37 l i))) := by rw [hst3, hok, Bool.true_and]
            obtain ⟨k, rfl⟩ : ∃ m, k = m + 1 := ⟨k - 1, by omega⟩
            have hrec := ih k (i + 1) (by omega) (by omega) (fun j hj => by
              rcases Nat.lt_or_ge j i with h5 | h5
              · exact hp j h5
              · obtain rfl : j = i := by omega
                exact hok)
            simp only [quartermasterref17_May.j1]
            rw [if_neg (by simp)]
            by_cases h5 : (i : Int) > 0
            · have hpr := hp (i - 1) (by omega)
              rw [show ((i - 1 : Nat) : Int) = (i : Int) - 1 by omega] at hpr
              have b1 := (okS_iff.1 hpr).1
              have b2 := (okS_iff.1 hok).1
              rw [if_pos h5, wd (by omega) (by omega), if_pos (by omega), if_pos (by omega)]
              by_cases h6 : ky (rd_T37 l ((i : Int) - 1)) < ky (rd_T37 l i)
              · have h6' := h6
                unfold ky at h6'
                rw [if_neg (by omega)]
                rw [hst2, decide_eq_true h6, Bool.or_true, Bool.true_and]
                split
                · rw [if_neg (by omega), wi (by omega), hrec]
                · rw [wi (by omega), hrec]
              · have h6' := h6
                unfold ky at h6'
                rw [hst2, decide_eq_false h6, decide_eq_false (by omega : ¬ i = 0), Bool.false_or, Bool.false_and]
                split
                · rfl
                · rw [if_pos (by omega), if_pos (by omega)]
            · rw [if_neg h5, wi (by omega), hrec, hst2, decide_eq_true (by omega : i = 0), Bool.true_or, Bool.true_and]
    · rw [if_neg h1, hst]
      have : pairB (rd_T37 l i).f0 (rd_T37 l i).f1 = false := by simpa using h1
      rw [this]; simp
theorem rmay_f {k : Nat} {l : List Spot} (hl : l.length ≤ 999999999999) (hk : 2 * l.length < k) : quartermasterref17_May.f k l = some (mayB l) := by
  unfold quartermasterref17_May.f
  rw [mayB_range]
  exact rmay_l hl l.length k 0 (by omega) hk (fun j hj => by omega)
/-- What is wrong with stocks, and with a line. -/
def firstP (l : List Spot) (sku loc qty : Int) : Int := if mayB l = true then (if pairB sku loc = true then (if qty ≤ 0 then 1 else 0) else 3) else 1
theorem first_f {k : Nat} {l : List Spot} (hl : l.length ≤ 999999999999) (hk : 2 * l.length < k) (a b q : Int) : quartermasterref17_first.f k l a b q = some (firstP l a b q) := by
  unfold quartermasterref17_first.f firstP
  rw [rmay_f hl hk, Pair_f]
  simp only [Option.bind_some]
  split
  · split
    · split <;> rfl
    · rfl
  · rfl
/-! #### Sums, differences -/
def addP (a b : Int) : Int × Int := if a < 0 ∨ b < 0 then (0, 1) else if 9223372036854775807 < a + b then (0, 30) else (a + b, 0)
def subP (a b : Int) : Int × Int := if a < 0 ∨ b < 0 then (0, 1) else if a < b then (0, 31) else (a - b, 0)
theorem add_f {k : Nat} (hk : 0 < k) {a b : Int} (ha : a < 9223372036854775808) (hb : b < 9223372036854775808) : qty_Add.f k a b = some (addP a b) := by
  obtain ⟨k, rfl⟩ : ∃ m, k = m + 1 := ⟨k - 1, by omega⟩
  unfold qty_Add.f qty_May.f addP
  simp only [Option.bind_some]
  by_cases h1 : a ≥ 0
  · rw [if_pos (decide_eq_true h1)]
    by_cases h2 : b ≥ 0
    · rw [decide_eq_true h2]
      simp only [qty_Add.j0]
      rw [if_neg (by simp), if_neg (show ¬ (a < 0 ∨ b < 0) by omega)]
      by_cases h3 : 9223372036854775807 < a + b
      · rw [if_pos h3, w64 (x := 9223372036854775807 - b) (by omega) (by omega), if_pos (by omega)]
      · rw [if_neg h3, w64 (x := 9223372036854775807 - b) (by omega) (by omega), if_neg (by omega), w64 (by omega) (by omega)]
    · rw [decide_eq_false h2, if_pos (by omega)]
      simp only [qty_Add.j0]
      rfl
  · rw [if_neg (by simpa using h1), if_pos (by omega), decide_eq_false h1]
    simp only [qty_Add.j0]
    rfl
theorem sub_f {k : Nat} (hk : 0 < k) {a b : Int} (ha : a < 9223372036854775808) (hb : b < 9223372036854775808) : qty_Sub.f k a b = some (subP a b) := by
  obtain ⟨k, rfl⟩ : ∃ m, k = m + 1 := ⟨k - 1, by omega⟩
  unfold qty_Sub.f qty_May.f subP
  simp only [Option.bind_some]
  by_cases h1 : a ≥ 0
  · rw [if_pos (decide_eq_true h1)]
    by_cases h2 : b ≥ 0
    · rw [decide_eq_true h2]
      simp only [qty_Sub.j0]
      rw [if_neg (by simp), if_neg (show ¬ (a < 0 ∨ b < 0) by omega)]
      by_cases h3 : b > a
      · rw [if_pos h3, if_pos (show a < b by omega)]
      · rw [if_neg h3, if_neg (show ¬ a < b by omega), w64 (by omega) (by omega)]
    · rw [decide_eq_false h2, if_pos (by omega)]
      simp only [qty_Sub.j0]
      rfl
  · rw [if_neg (by simpa using h1), if_pos (by omega), decide_eq_false h1]
    simp only [qty_Sub.j0]
    rfl
theorem radd_f {k : Nat} (hk : 0 < k) {a b : Int} (ha : a < 9223372036854775808) (hb : b < 9223372036854775808) : quartermasterref16_Add.f k a b = some (addP a b) := by
  obtain ⟨k, rfl⟩ : ∃ m, k = m + 1 := ⟨k - 1, by omega⟩
  unfold quartermasterref16_Add.f addP
  by_cases h1 : a < 0
  · rw [if_pos h1, if_pos (by omega)]
    simp only [quartermasterref16_Add.j0]
    rfl
  · rw [if_neg h1]
    by_cases h2 : b < 0
    · rw [decide_eq_true h2, if_pos (by omega)]
      simp only [quartermasterref16_Add.j0]
      rfl
    · rw [decide_eq_false h2, if_neg (by omega)]
      simp only [quartermasterref16_Add.j0]
      rw [if_neg (by simp)]
      have t1 : Int.tmod a 2 = a % 2 := Int.tmod_eq_emod_of_nonneg (by omega)
      have t2 : Int.tmod b 2 = b % 2 := Int.tmod_eq_emod_of_nonneg (by omega)
      have t3 : Int.tdiv a 2 = a / 2 := Int.tdiv_eq_ediv_of_nonneg (by omega)
      have t4 : Int.tdiv b 2 = b / 2 := Int.tdiv_eq_ediv_of_nonneg (by omega)
      rw [t1, t2, t3, t4]
      have u1 : wrap64 (a % 2 + b % 2) = a % 2 + b % 2 := w64 (by omega) (by omega)
      have u2 : wrap64 (a / 2) = a / 2 := w64 (by omega) (by omega)
      have u3 : wrap64 (b / 2) = b / 2 := w64 (by omega) (by omega)
      rw [u1, u2, u3]
      have u4 : wrap64 (a / 2 + b / 2) = a / 2 + b / 2 := w64 (by omega) (by omega)
      rw [u4]
      clear u1 u2 u3 u4 t1 t2 t3 t4
      by_cases h3 : a % 2 + b % 2 = 2
      · have u5 : wrap64 (a / 2 + b / 2 + 1) = a / 2 + b / 2 + 1 := w64 (by omega) (by omega)
        rw [if_pos h3, u5]
        clear u5
        by_cases h4 : 9223372036854775807 < a + b
        · rw [if_pos h4, if_pos (by omega)]
        · rw [if_neg h4, if_neg (by omega)]
          have u6 : wrap64 (2 * (a / 2 + b / 2 + 1)) = 2 * (a / 2 + b / 2 + 1) := w64 (by omega) (by omega)
          rw [u6]
          clear u6
          rw [w64 (by omega) (by omega)]
          congr 2
          omega
      · rw [if_neg h3]
        by_cases h4 : 9223372036854775807 < a + b
        · rw [if_pos h4, if_pos (by omega)]
        · rw [if_neg h4, if_neg (by omega)]
          have u6 : wrap64 (2 * (a / 2 + b / 2)) = 2 * (a / 2 + b / 2) := w64 (by omega) (by omega)
          rw [u6]
          clear u6
          rw [w64 (by omega) (by omega)]
          congr 2
          omega
end Go.Proofs.Ytkhghabenhhhaaa.Stock
