/- Any two numbers have the sum and the difference, or the errors, that the document says: the law over numbers and lists. No conditions beside the given bounds. -/
import Derived.Test.YtlhmgbaplilbeaaPQtyTellsx2
namespace Go.Proofs.Ytlhmgbaplilbeaa.Pure
open Go.RowKit Go.Proofs.Ytlhmgbaplilbeaa.PQtyTells Go.Proofs.YtlhmgbaplilbeaaW.PrintWords Go.Proofs.YtlhmgbaplilbeaaW.PrintLast

namespace QtyTellsFacts
theorem wfb {a : Int} (h : (Lit.int .i64 a).wf = true) : -9223372036854775808 ≤ a ∧ a ≤ 9223372036854775807 := by
  simp only [Lit.wf, Bool.and_eq_true, decide_eq_true_eq] at h
  have h1 : IntKind.i64.min = -9223372036854775808 := by decide
  have h2 : IntKind.i64.max = 9223372036854775807 := by decide
  rw [h1, h2] at h
  exact h

/-- The sum, or the error. -/
def addS (a b : Int) : Int × Int := if a < 0 then (0, 1) else if b < 0 then (0, 1) else if a + b > 9223372036854775807 then (0, 30) else (a + b, 0)
def subS (a b : Int) : Int × Int := if a < 0 then (0, 1) else if b < 0 then (0, 1) else if b > a then (0, 31) else (a - b, 0)

theorem add_f {k : Nat} {a b : Int} (hk : 0 < k) (ha : a ≤ 9223372036854775807) (hb : b ≤ 9223372036854775807) : qty_Add.f k a b = some (addS a b) := by
  obtain ⟨k, rfl⟩ : ∃ m, k = m + 1 := ⟨k - 1, by omega⟩
  unfold qty_Add.f qty_May.f addS
  simp only [Option.bind_some, decide_eq_true_eq]
  by_cases h0 : a < 0
  · rw [if_neg (by omega), if_pos h0]
    have e : decide (a ≥ 0) = false := decide_eq_false (by omega)
    rw [e]; simp only [qty_Add.j0, Bool.not_false, if_true]
  · rw [if_pos (by omega), if_neg h0]
    by_cases h1 : b < 0
    · have e : decide (b ≥ 0) = false := decide_eq_false (by omega)
      rw [e, if_pos h1]; simp only [qty_Add.j0, Bool.not_false, if_true]
    · have e : decide (b ≥ 0) = true := decide_eq_true (by omega)
      rw [e, if_neg h1]; simp only [qty_Add.j0, Bool.not_true, Bool.false_eq_true, if_false]
      have w1 : wrap64 (9223372036854775807 - b) = 9223372036854775807 - b := by unfold wrap64; omega
      rw [w1]
      by_cases h2 : a + b > 9223372036854775807
      · rw [if_pos (by omega), if_pos h2]
      · rw [if_neg (by omega), if_neg h2]
        have w2 : wrap64 (a + b) = a + b := by unfold wrap64; omega
        rw [w2]

theorem sub_f {k : Nat} {a b : Int} (hk : 0 < k) (ha : a ≤ 9223372036854775807) : qty_Sub.f k a b = some (subS a b) := by
  obtain ⟨k, rfl⟩ : ∃ m, k = m + 1 := ⟨k - 1, by omega⟩
  unfold qty_Sub.f qty_May.f subS
  simp only [Option.bind_some, decide_eq_true_eq]
  by_cases h0 : a < 0
  · rw [if_neg (by omega), if_pos h0]
    have e : decide (a ≥ 0) = false := decide_eq_false (by omega)
    rw [e]; simp only [qty_Sub.j0, Bool.not_false, if_true]
  · rw [if_pos (by omega), if_neg h0]
    by_cases h1 : b < 0
    · have e : decide (b ≥ 0) = false := decide_eq_false (by omega)
      rw [e, if_pos h1]; simp only [qty_Sub.j0, Bool.not_false, if_true]
    · have e : decide (b ≥ 0) = true := decide_eq_true (by omega)
      rw [e, if_neg h1]; simp only [qty_Sub.j0, Bool.not_true, Bool.false_eq_true, if_false]
      by_cases h2 : b > a
      · rw [if_pos h2, if_pos h2]
      · rw [if_neg h2, if_neg h2]
        have w2 : wrap64 (a - b) = a - b := by unfold wrap64; omega
        rw [w2]

theorem addS_range (a b : Int) : (addS a b).1 ≤ 9223372036854775807 := by
  unfold addS; repeat (split; · simp)
  simp; omega

/-- The sum of what is left of a list. -/
def sumS : Int → List Int → Int × Int
  | n, [] => (n, 0)
  | n, x :: r => if (addS n x).2 = 0 then sumS (addS n x).1 r else (0, (addS n x).2)

theorem rd_drop {l : List Int} {i : Nat} (h : i < l.length) : l.drop i = rd l i :: l.drop (i + 1) := by
  rw [List.drop_eq_getElem_cons h]; simp [rd, h]

theorem sum_l {l : List Int} (hl : l.length ≤ 9223372036854775806) (hx : ∀ x ∈ l, x ≤ 9223372036854775807) (d : Nat) : ∀ (k i : Nat) (n : Int), i + d = l.length → d + 1 < k → n ≤ 9223372036854775807 →
    qty_Sum.l0 k n l l.length i = some (sumS n (l.drop i)) := by
  induction d with
  | zero =>
    intro k i n h hk hn
    obtain ⟨k, rfl⟩ : ∃ m, k = m + 1 := ⟨k - 1, by omega⟩
    simp only [qty_Sum.l0]
    rw [if_neg (by omega), List.drop_of_length_le (by omega)]; rfl
  | succ d ih =>
    intro k i n h hk hn
    obtain ⟨k, rfl⟩ : ∃ m, k = m + 1 := ⟨k - 1, by omega⟩
    simp only [qty_Sum.l0]
    have hi : i < l.length := by omega
    have hm : rd l i ≤ 9223372036854775807 := hx _ (by simp [rd, hi])
    rw [if_pos (by omega), if_pos (by omega), if_pos (by omega), add_f (by omega) hn hm]
    simp only [Option.bind_some]
    have w : wrap64 ((i : Int) + 1) = ((i + 1 : Nat) : Int) := by unfold wrap64; omega
    rw [rd_drop hi, sumS, w]
    by_cases hz : (addS n (rd l i)).2 = 0
    · rw [if_pos hz, if_pos hz]
      exact ih k (i + 1) _ (by omega) (by omega) (addS_range _ _)
    · rw [if_neg hz, if_neg hz]

theorem sum_f {k : Nat} {l : List Int} (hl : l.length ≤ 9223372036854775806) (hx : ∀ x ∈ l, x ≤ 9223372036854775807) (hk : l.length + 1 < k) : qty_Sum.f k l = some (sumS 0 l) := by
  unfold qty_Sum.f
  have := sum_l hl hx l.length k 0 0 (by omega) hk (by omega)
  simpa using this

theorem awake_f {k : Nat} (hk : 4 < k) : quartermasterlaw16_awake.f k = some true := by
  unfold quartermasterlaw16_awake.f qty_May.f
  rw [add_f (by omega) (by omega) (by omega), sub_f (by omega) (by omega), sum_f (by decide) (by decide) (by simp; omega)]
  decide
theorem refadd_f {k : Nat} {a b : Int} (hk : 0 < k) (ha : a ≤ 9223372036854775807) (hb : b ≤ 9223372036854775807) : quartermasterref16_Add.f k a b = some (addS a b) := by
  obtain ⟨k, rfl⟩ : ∃ m, k = m + 1 := ⟨k - 1, by omega⟩
  unfold quartermasterref16_Add.f addS
  by_cases h0 : a < 0
  · rw [if_pos h0, if_pos h0]; simp only [quartermasterref16_Add.j0, if_true]
  · rw [if_neg h0, if_neg h0]
    by_cases h1 : b < 0
    · have e : decide (b < 0) = true := decide_eq_true h1
      rw [e, if_pos h1]; simp only [quartermasterref16_Add.j0, if_true]
    · have e : decide (b < 0) = false := decide_eq_false h1
      rw [e, if_neg h1]; simp only [quartermasterref16_Add.j0, Bool.false_eq_true, if_false]
      rw [Int.tmod_eq_emod_of_nonneg (by omega), Int.tmod_eq_emod_of_nonneg (by omega), Int.tdiv_eq_ediv_of_nonneg (by omega), Int.tdiv_eq_ediv_of_nonneg (by omega)]
      have w1 : wrap64 (a / 2) = a / 2 := by unfold wrap64; omega
      have w2 : wrap64 (b / 2) = b / 2 := by unfold wrap64; omega
      rw [w1, w2]
      have w3 : wrap64 (a / 2 + b / 2) = a / 2 + b / 2 := by unfold wrap64; omega
      have w4 : wrap64 (a % 2 + b % 2) = a % 2 + b % 2 := by unfold wrap64; omega
      rw [w3, w4]
      have w5 : wrap64 (a / 2 + b / 2 + 1) = a / 2 + b / 2 + 1 := by unfold wrap64; omega
      rw [w5]
      by_cases h2 : a % 2 + b % 2 = 2
      · rw [if_pos h2]
        by_cases h3 : a / 2 + b / 2 + 1 > 4611686018427387903
        · rw [if_pos h3, if_pos (by omega)]
        · rw [if_neg h3, if_neg (by omega)]
          have w6 : wrap64 (2 * (a / 2 + b / 2 + 1)) = 2 * (a / 2 + b / 2 + 1) := by unfold wrap64; omega
          rw [w6]
          have w7 : wrap64 (2 * (a / 2 + b / 2 + 1) + 0) = a + b := by unfold wrap64; omega
          rw [w7]
      · rw [if_neg h2]
        by_cases h3 : a / 2 + b / 2 > 4611686018427387903
        · rw [if_pos h3, if_pos (by omega)]
        · rw [if_neg h3, if_neg (by omega)]
          have w6 : wrap64 (2 * (a / 2 + b / 2)) = 2 * (a / 2 + b / 2) := by unfold wrap64; omega
          rw [w6]
          have w7 : wrap64 (2 * (a / 2 + b / 2) + (a % 2 + b % 2)) = a + b := by unfold wrap64; omega
          rw [w7]
theorem refsub_f {k : Nat} {a b : Int} (hk : 0 < k) (ha : a ≤ 9223372036854775807) : quartermasterref16_Sub.f k a b = some (subS a b) := by
  obtain ⟨k, rfl⟩ : ∃ m, k = m + 1 := ⟨k - 1, by omega⟩
  unfold quartermasterref16_Sub.f subS
  by_cases h0 : a < 0
  · rw [if_pos h0, if_pos h0]; simp only [quartermasterref16_Sub.j0, if_true]
  · rw [if_neg h0, if_neg h0]
    by_cases h1 : b < 0
    · have e : decide (b < 0) = true := decide_eq_true h1
      rw [e, if_pos h1]; simp only [quartermasterref16_Sub.j0, if_true]
    · have e : decide (b < 0) = false := decide_eq_false h1
      rw [e, if_neg h1]; simp only [quartermasterref16_Sub.j0, Bool.false_eq_true, if_false]
      by_cases h2 : b > a
      · rw [if_pos (by omega), if_pos h2]
      · rw [if_neg (by omega), if_neg h2]
        have w2 : wrap64 (a - b) = a - b := by unfold wrap64; omega
        rw [w2]
end QtyTellsFacts
open QtyTellsFacts

theorem QtyTells : quartermasterlaw16_QtyTells.Pure := by
  intro a b ha hb
  obtain ⟨a0, a1⟩ := wfb ha
  obtain ⟨b0, b1⟩ := wfb hb
  refine ⟨5, ?_⟩
  unfold quartermasterlaw16_QtyTells.f
  rw [awake_f (by omega), add_f (by omega) a1 b1, refadd_f (by omega) a1 b1, sub_f (by omega) a1, refsub_f (by omega) a1]
  simp [qty_May.f]

end Go.Proofs.Ytlhmgbaplilbeaa.Pure
