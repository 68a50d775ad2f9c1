/- What was added may be taken again; what was taken may be added; sums may be taken in any order: the law over numbers and lists. No conditions beside the given bounds. -/
import Derived.Test.YtlhmgbaplilbeaaPQtyBackx2
namespace Go.Proofs.Ytlhmgbaplilbeaa.Pure
open Go.RowKit Go.Proofs.Ytlhmgbaplilbeaa.PQtyBack Go.Proofs.YtlhmgbaplilbeaaW.PrintWords Go.Proofs.YtlhmgbaplilbeaaW.PrintLast

namespace QtyBackFacts
theorem wfb {a : Int} (h : (Lit.int .i64 a).wf = true) : -9223372036854775808 ≤ a ∧ a ≤ 9223372036854775807 := by
  simp only [Lit.wf, Bool.and_eq_true, decide_eq_true_eq] at h
  have h1 : IntKind.i64.min = -9223372036854775808 := by decide
  have h2 : IntKind.i64.max = 9223372036854775807 := by decide
  rw [h1, h2] at h
  exact h

/-- The sum, or the error. -/
def addS (a b : Int) : Int × Int := if a < 0 then (0, 1) else if b < 0 then (0, 1) else if a + b > 9223372036854775807 then (0, 30) else (a + b, 0)
def subS (a b : Int) : Int × Int := if a < 0 then (0, 1) else if b < 0 then (0, 1) else if b > a then (0, 31) else (a - b, 0)

theorem add_f {k : Nat} {a b : Int} (hk : 0 < k) (ha : a ≤ 9223372036854775807) (hb : b ≤ 9223372036854775807) : qty_Add.f k a b = some (addS a b) := by
  obtain ⟨k, rfl⟩ : ∃ m, k = m + 1 := ⟨k - 1, by omega⟩
  unfold qty_Add.f qty_May.f addS
  simp only [Option.bind_some, decide_eq_true_eq]
  by_cases h0 : a < 0
  · rw [if_neg (by omega), if_pos h0]
    have e : decide (a ≥ 0) = false := decide_eq_false (by omega)
    rw [e]; simp only [qty_Add.j0, Bool.not_false, if_true]
  · rw [if_pos (by omega), if_neg h0]
    by_cases h1 : b < 0
    · have e : decide (b ≥ 0) = false := decide_eq_false (by omega)
      rw [e, if_pos h1]; simp only [qty_Add.j0, Bool.not_false, if_true]
    · have e : decide (b ≥ 0) = true := decide_eq_true (by omega)
      rw [e, if_neg h1]; simp only [qty_Add.j0, Bool.not_true, Bool.false_eq_true, if_false]
      have w1 : wrap64 (9223372036854775807 - b) = 9223372036854775807 - b := by unfold wrap64; omega
      rw [w1]
      by_cases h2 : a + b > 9223372036854775807
      · rw [if_pos (by omega), if_pos h2]
      · rw [if_neg (by omega), if_neg h2]
        have w2 : wrap64 (a + b) = a + b := by unfold wrap64; omega
        rw [w2]

theorem sub_f {k : Nat} {a b : Int} (hk : 0 < k) (ha : a ≤ 9223372036854775807) : qty_Sub.f k a b = some (subS a b) := by
  obtain ⟨k, rfl⟩ : ∃ m, k = m + 1 := ⟨k - 1, by omega⟩
  unfold qty_Sub.f qty_May.f subS
  simp only [Option.bind_some, decide_eq_true_eq]
  by_cases h0 : a < 0
  · rw [if_neg (by omega), if_pos h0]
    have e : decide (a ≥ 0) = false := decide_eq_false (by omega)
    rw [e]; simp only [qty_Sub.j0, Bool.not_false, if_true]
  · rw [if_pos (by omega), if_neg h0]
    by_cases h1 : b < 0
    · have e : decide (b ≥ 0) = false := decide_eq_false (by omega)
      rw [e, if_pos h1]; simp only [qty_Sub.j0, Bool.not_false, if_true]
    · have e : decide (b ≥ 0) = true := decide_eq_true (by omega)
      rw [e, if_neg h1]; simp only [qty_Sub.j0, Bool.not_true, Bool.false_eq_true, if_false]
      by_cases h2 : b > a
      · rw [if_pos h2, if_pos h2]
      · rw [if_neg h2, if_neg h2]
        have w2 : wrap64 (a - b) = a - b := by unfold wrap64; omega
        rw [w2]

theorem addS_range (a b : Int) : (addS a b).1 ≤ 9223372036854775807 := by
  unfold addS; repeat (split; · simp)
  simp; omega

/-- The sum of what is left of a list. -/
def sumS : Int → List Int → Int × Int
  | n, [] => (n, 0)
  | n, x :: r => if (addS n x).2 = 0 then sumS (addS n x).1 r else (0, (addS n x).2)

theorem rd_drop {l : List Int} {i : Nat} (h : i < l.length) : l.drop i = rd l i :: l.drop (i + 1) := by
  rw [List.drop_eq_getElem_cons h]; simp [rd, h]

theorem sum_l {l : List Int} (hl : l.length ≤ 9223372036854775806) (hx : ∀ x ∈ l, x ≤ 9223372036854775807) (d : Nat) : ∀ (k i : Nat) (n : Int), i + d = l.length → d + 1 < k → n ≤ 9223372036854775807 →
    qty_Sum.l0 k n l l.length i = some (sumS n (l.drop i)) := by
  induction d with
  | zero =>
    intro k i n h hk hn
    obtain ⟨k, rfl⟩ : ∃ m, k = m + 1 := ⟨k - 1, by omega⟩
    simp only [qty_Sum.l0]
    rw [if_neg (by omega), List.drop_of_length_le (by omega)]; rfl
  | succ d ih =>
    intro k i n h hk hn
    obtain ⟨k, rfl⟩ : ∃ m, k = m + 1 := ⟨k - 1, by omega⟩
    simp only [qty_Sum.l0]
    have hi : i < l.length := by omega
    have hm : rd l i ≤ 9223372036854775807 := hx _ (by simp [rd, hi])
    rw [if_pos (by omega), if_pos (by omega), if_pos (by omega), add_f (by omega) hn hm]
    simp only [Option.bind_some]
    have w : wrap64 ((i : Int) + 1) = ((i + 1 : Nat) : Int) := by unfold wrap64; omega
    rw [rd_drop hi, sumS, w]
    by_cases hz : (addS n (rd l i)).2 = 0
    · rw [if_pos hz, if_pos hz]
      exact ih k (i + 1) _ (by omega) (by omega) (addS_range _ _)
    · rw [if_neg hz, if_neg hz]

theorem sum_f {k : Nat} {l : List Int} (hl : l.length ≤ 9223372036854775806) (hx : ∀ x ∈ l, x ≤ 9223372036854775807) (hk : l.length + 1 < k) : qty_Sum.f k l = some (sumS 0 l) := by
  unfold qty_Sum.f
  have := sum_l hl hx l.length k 0 0 (by omega) hk (by omega)
  simpa using this

theorem awake_f {k : Nat} (hk : 4 < k) : quartermasterlaw16_awake.f k = some true := by
  unfold quartermasterlaw16_awake.f qty_May.f
  rw [add_f (by omega) (by omega) (by omega), sub_f (by omega) (by omega), sum_f (by decide) (by decide) (by simp; omega)]
  decide

theorem addS_ok {a b : Int} (ha : 0 ≤ a) (hb : 0 ≤ b) (h : a + b ≤ 9223372036854775807) : addS a b = (a + b, 0) := by
  unfold addS; rw [if_neg (by omega), if_neg (by omega), if_neg (by omega)]
theorem addS_over {a b : Int} (ha : 0 ≤ a) (hb : 0 ≤ b) (h : a + b > 9223372036854775807) : addS a b = (0, 30) := by
  unfold addS; rw [if_neg (by omega), if_neg (by omega), if_pos h]
theorem addS_neg {a b : Int} (ha : a < 0 ∨ b < 0) : addS a b = (0, 1) := by
  unfold addS
  by_cases h : a < 0
  · rw [if_pos h]
  · rw [if_neg h, if_pos (by omega)]

/-- What three come to. -/
def three (a b c : Int) : Int × Int := sumS 0 [a, b, c]
theorem three_ok {a b c : Int} (ha : 0 ≤ a) (hb : 0 ≤ b) (hc : 0 ≤ c) (h : a + b + c ≤ 9223372036854775807) : three a b c = (a + b + c, 0) := by
  simp only [three, sumS]
  rw [addS_ok (a := 0) (by omega) ha (by omega)]
  simp only [if_true]
  rw [addS_ok (by omega) hb (by omega)]
  simp only [if_true]
  rw [addS_ok (by omega) hc (by omega)]
  simp
theorem three_over {a b c : Int} (ha : 0 ≤ a) (hb : 0 ≤ b) (hc : 0 ≤ c) (hA : a ≤ 9223372036854775807) (h : a + b + c > 9223372036854775807) : three a b c = (0, 30) := by
  simp only [three, sumS]
  rw [addS_ok (a := 0) (by omega) ha (by omega)]
  simp only [if_true]
  by_cases h2 : 0 + a + b > 9223372036854775807
  · rw [addS_over (by omega) hb h2]; simp
  · rw [addS_ok (by omega) hb (by omega)]
    simp only [if_true]
    rw [addS_over (by omega) hc (by omega)]
    simp
theorem three_neg {a b c : Int} (hA : a ≤ 9223372036854775807) (h : a < 0 ∨ b < 0 ∨ c < 0) : (three a b c).1 = 0 ∧ (three a b c).2 ≠ 0 := by
  simp only [three, sumS]
  by_cases ha : a < 0
  · rw [addS_neg (a := 0) (.inr ha)]; simp
  · rw [addS_ok (a := 0) (by omega) (by omega) (by omega)]
    simp only [if_true]
    by_cases hb : b < 0
    · rw [addS_neg (.inr hb)]; simp
    · by_cases h2 : 0 + a + b > 9223372036854775807
      · rw [addS_over (by omega) (by omega) h2]; simp
      · rw [addS_ok (by omega) (by omega) (by omega)]
        simp only [if_true]
        rw [addS_neg (.inr (by omega))]; simp

theorem three_turn {a b c : Int} (ha : a ≤ 9223372036854775807) (hc : c ≤ 9223372036854775807) :
    (three a b c).1 = (three c a b).1 ∧ (((three a b c).2 == 0) == ((three c a b).2 == 0)) = true ∧ (0 ≤ a → 0 ≤ b → 0 ≤ c → (three a b c).2 = (three c a b).2) := by
  by_cases h : 0 ≤ a ∧ 0 ≤ b ∧ 0 ≤ c
  · obtain ⟨h1, h2, h3⟩ := h
    by_cases hs : a + b + c > 9223372036854775807
    · rw [three_over h1 h2 h3 ha hs, three_over h3 h1 h2 hc (by omega)]; simp
    · rw [three_ok h1 h2 h3 (by omega), three_ok h3 h1 h2 (by omega)]
      refine ⟨?_, by simp, fun _ _ _ => rfl⟩
      show a + b + c = c + a + b
      omega
  · obtain ⟨x1, x2⟩ := three_neg (a := a) (b := b) (c := c) ha (by omega)
    obtain ⟨y1, y2⟩ := three_neg (a := c) (b := a) (c := b) hc (by omega)
    refine ⟨by rw [x1, y1], ?_, fun _ _ _ => by omega⟩
    rw [beq_eq_false_iff_ne.2 x2, beq_eq_false_iff_ne.2 y2]; rfl

theorem j2_f {k : Nat} {a b c : Int} (hk : 5 < k) (ha : a ≤ 9223372036854775807) (hb : b ≤ 9223372036854775807) (hc : c ≤ 9223372036854775807) : quartermasterlaw16_QtyBack.j2 k a b c = some true := by
  obtain ⟨k, rfl⟩ : ∃ m, k = m + 1 := ⟨k - 1, by omega⟩
  simp only [quartermasterlaw16_QtyBack.j2]
  rw [sum_f (by simp) (by intro x hx; simp at hx; omega) (by simp; omega), sum_f (by simp) (by intro x hx; simp at hx; omega) (by simp; omega)]
  simp only [Option.bind_some]
  obtain ⟨t1, t2, t3⟩ := three_turn (b := b) ha hc
  simp only [three] at t1 t2 t3
  rw [if_pos t1, t2]
  by_cases h1 : a ≥ 0
  · rw [if_pos h1]
    by_cases h2 : b ≥ 0
    · rw [if_pos h2]
      by_cases h3 : c ≥ 0
      · rw [if_pos h3, if_pos (t3 h1 h2 h3)]
      · rw [if_neg h3]
    · rw [if_neg h2]
  · rw [if_neg h1]

theorem j1_f {k : Nat} {a b c : Int} (hk : 6 < k) (ha : a ≤ 9223372036854775807) (hb : b ≤ 9223372036854775807) (hc : c ≤ 9223372036854775807) : quartermasterlaw16_QtyBack.j1 k a b c = some true := by
  obtain ⟨k, rfl⟩ : ∃ m, k = m + 1 := ⟨k - 1, by omega⟩
  simp only [quartermasterlaw16_QtyBack.j1]
  rw [sub_f (by omega) ha, j2_f (by omega) ha hb hc]
  simp only [Option.bind_some]
  by_cases h0 : a < 0
  · have e : subS a c = (0, 1) := by unfold subS; rw [if_pos h0]
    rw [e, if_neg (by decide)]
  by_cases h1 : c < 0
  · have e : subS a c = (0, 1) := by unfold subS; rw [if_neg h0, if_pos h1]
    rw [e, if_neg (by decide)]
  by_cases h2 : c > a
  · have e : subS a c = (0, 31) := by unfold subS; rw [if_neg h0, if_neg h1, if_pos h2]
    rw [e, if_neg (by decide)]
  · have e : subS a c = (a - c, 0) := by unfold subS; rw [if_neg h0, if_neg h1, if_neg h2]
    rw [e]
    simp only [if_true]
    rw [add_f (by omega) (by omega) hc, addS_ok (by omega) (by omega) (by omega)]
    simp only [Option.bind_some, if_true]
    rw [if_pos (by omega)]
end QtyBackFacts
open QtyBackFacts

theorem QtyBack : quartermasterlaw16_QtyBack.Pure := by
  intro a b c ha hb hc
  obtain ⟨a0, a1⟩ := wfb ha
  obtain ⟨b0, b1⟩ := wfb hb
  obtain ⟨c0, c1⟩ := wfb hc
  refine ⟨9, ?_⟩
  unfold quartermasterlaw16_QtyBack.f
  rw [awake_f (by omega), add_f (by omega) a1 b1, add_f (by omega) b1 a1]
  simp only [Option.bind_some, if_true]
  by_cases hn : a < 0 ∨ b < 0
  · rw [addS_neg hn, addS_neg (a := b) (b := a) (by omega)]
    simp only [if_true, bne_self_eq_false, quartermasterlaw16_QtyBack.j0, Bool.false_eq_true, if_false]
    rw [if_neg (by decide), j1_f (by omega) a1 b1 c1]
  by_cases h2 : a + b > 9223372036854775807
  · rw [addS_over (by omega) (by omega) h2, addS_over (a := b) (b := a) (by omega) (by omega) (by omega)]
    simp only [if_true, bne_self_eq_false, quartermasterlaw16_QtyBack.j0, Bool.false_eq_true, if_false]
    rw [if_neg (by decide), j1_f (by omega) a1 b1 c1]
  · rw [addS_ok (by omega) (by omega) (by omega), addS_ok (a := b) (b := a) (by omega) (by omega) (by omega)]
    simp only [bne_self_eq_false, quartermasterlaw16_QtyBack.j0, Bool.false_eq_true, if_false, if_true]
    rw [if_pos (by omega), j1_f (by omega) a1 b1 c1, sub_f (by omega) (by omega)]
    have e : subS (a + b) b = (a, 0) := by unfold subS; rw [if_neg (by omega), if_neg (by omega), if_neg (by omega)]; simp
    rw [e]
    simp only [Option.bind_some, if_true]
    rw [if_neg (by omega), if_neg (by omega)]

end Go.Proofs.Ytlhmgbaplilbeaa.Pure
