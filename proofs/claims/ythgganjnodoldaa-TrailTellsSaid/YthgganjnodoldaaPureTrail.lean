/- What the functions of trails come to, as plain laws over numbers and lists: of entries whose numbers are of their kinds. -/
import Derived.Test.YthgganjnodoldaaPx1
namespace Go.Proofs.Ythgganjnodoldaa.Pure
open Go.RowKit Go.Proofs.Ythgganjnodoldaa.Pa Go.Proofs.Ythgganjnodoldaa.Ext Go.Proofs.Ythgganjnodoldaa.Px Go.Proofs.YthgganjnodoldaaW.PrintWords Go.Proofs.YthgganjnodoldaaW.PrintLast


theorem wfb {a : Int} (h : (Lit.int .i64 a).wf = true) : -9223372036854775808 ≤ a ∧ a ≤ 9223372036854775807 := by
  simp only [Lit.wf, Bool.and_eq_true, decide_eq_true_eq] at h
  have h1 : IntKind.i64.min = -9223372036854775808 := by decide
  have h2 : IntKind.i64.max = 9223372036854775807 := by decide
  rw [h1, h2] at h
  exact h
/-- An entry that may be. -/
structure OkE (x : S35) : Prop where
  k0 : 1 ≤ x.f0
  k1 : x.f0 ≤ 5
  s0 : 0 ≤ x.f1
  s1 : x.f1 < 16
  l0 : 0 ≤ x.f2
  l1 : x.f2 < 4
  q2 : x.f0 = 2 → x.f3 ≠ 0 ∧ x.f3 ≠ -9223372036854775808
  q : x.f0 ≠ 2 → 0 < x.f3
theorem okE_of {x : S35} (h : oddS x = false) : OkE x := by
  unfold oddS at h
  simp only [Bool.or_eq_false_iff, decide_eq_false_iff_not] at h
  obtain ⟨h1, h2, h3, h4, h5, h6, h7⟩ := h
  refine ⟨by omega, by omega, by omega, by omega, by omega, by omega, fun e => ?_, fun e => ?_⟩
  · rw [if_pos e] at h7
    simpa using h7
  · rw [if_neg e] at h7
    simp at h7
    omega
theorem okE_all {l : List S35} (h : mayS l = true) : l.length ≤ 64 ∧ ∀ x ∈ l, oddS x = false := by
  unfold mayS at h
  simp only [Bool.and_eq_true, decide_eq_true_eq, Bool.not_eq_true', List.any_eq_false] at h
  exact ⟨h.1, fun x hx => by simpa using h.2 x hx⟩

/-- The sum, or the error. -/
def addN (a b : Int) : Int × Int := if a < 0 then (0, 1) else if b < 0 then (0, 1) else if a + b > 9223372036854775807 then (0, 30) else (a + b, 0)
def subN (a b : Int) : Int × Int := if a < 0 then (0, 1) else if b < 0 then (0, 1) else if b > a then (0, 31) else (a - b, 0)
theorem add_f {k : Nat} {a b : Int} (hk : 0 < k) (ha : a ≤ 9223372036854775807) (hb : b ≤ 9223372036854775807) : qty_Add.f k a b = some (addN a b) := by
  obtain ⟨k, rfl⟩ : ∃ m, k = m + 1 := ⟨k - 1, by omega⟩
  unfold qty_Add.f qty_May.f addN
  simp only [Option.bind_some, decide_eq_true_eq]
  by_cases h0 : a < 0
  · rw [if_neg (by omega), if_pos h0]
    have e : decide (a ≥ 0) = false := decide_eq_false (by omega)
    rw [e]; simp only [qty_Add.j0, Bool.not_false, if_true]
  · rw [if_pos (by omega), if_neg h0]
    by_cases h1 : b < 0
    · have e : decide (b ≥ 0) = false := decide_eq_false (by omega)
      rw [e, if_pos h1]; simp only [qty_Add.j0, Bool.not_false, if_true]
    · have e : decide (b ≥ 0) = true := decide_eq_true (by omega)
      rw [e, if_neg h1]; simp only [qty_Add.j0, Bool.not_true, Bool.false_eq_true, if_false]
      have w1 : wrap64 (9223372036854775807 - b) = 9223372036854775807 - b := by unfold wrap64; omega
      rw [w1]
      clear w1
      by_cases h2 : a + b > 9223372036854775807
      · rw [if_pos (by omega), if_pos h2]
      · rw [if_neg (by omega), if_neg h2]
        have w2 : wrap64 (a + b) = a + b := by unfold wrap64; omega
        rw [w2]
theorem sub_f {k : Nat} {a b : Int} (hk : 0 < k) (ha : a ≤ 9223372036854775807) : qty_Sub.f k a b = some (subN a b) := by
  obtain ⟨k, rfl⟩ : ∃ m, k = m + 1 := ⟨k - 1, by omega⟩
  unfold qty_Sub.f qty_May.f subN
  simp only [Option.bind_some, decide_eq_true_eq]
  by_cases h0 : a < 0
  · rw [if_neg (by omega), if_pos h0]
    have e : decide (a ≥ 0) = false := decide_eq_false (by omega)
    rw [e]; simp only [qty_Sub.j0, Bool.not_false, if_true]
  · rw [if_pos (by omega), if_neg h0]
    by_cases h1 : b < 0
    · have e : decide (b ≥ 0) = false := decide_eq_false (by omega)
      rw [e, if_pos h1]; simp only [qty_Sub.j0, Bool.not_false, if_true]
    · have e : decide (b ≥ 0) = true := decide_eq_true (by omega)
      rw [e, if_neg h1]; simp only [qty_Sub.j0, Bool.not_true, Bool.false_eq_true, if_false]
      by_cases h2 : b > a
      · rw [if_pos h2, if_pos h2]
      · rw [if_neg h2, if_neg h2]
        have w2 : wrap64 (a - b) = a - b := by unfold wrap64; omega
        rw [w2]
theorem refadd_f {k : Nat} {a b : Int} (hk : 0 < k) (ha : a ≤ 9223372036854775807) (hb : b ≤ 9223372036854775807) : quartermasterref16_Add.f k a b = some (addN a b) := by
  obtain ⟨k, rfl⟩ : ∃ m, k = m + 1 := ⟨k - 1, by omega⟩
  unfold quartermasterref16_Add.f addN
  by_cases h0 : a < 0
  · rw [if_pos h0, if_pos h0]; simp only [quartermasterref16_Add.j0, if_true]
  · rw [if_neg h0, if_neg h0]
    by_cases h1 : b < 0
    · have e : decide (b < 0) = true := decide_eq_true h1
      rw [e, if_pos h1]; simp only [quartermasterref16_Add.j0, if_true]
    · have e : decide (b < 0) = false := decide_eq_false h1
      rw [e, if_neg h1]; simp only [quartermasterref16_Add.j0, Bool.false_eq_true, if_false]
      rw [Int.tmod_eq_emod_of_nonneg (by omega), Int.tmod_eq_emod_of_nonneg (by omega), Int.tdiv_eq_ediv_of_nonneg (by omega), Int.tdiv_eq_ediv_of_nonneg (by omega)]
      have w1 : wrap64 (a / 2) = a / 2 := by unfold wrap64; omega
      have w2 : wrap64 (b / 2) = b / 2 := by unfold wrap64; omega
      rw [w1, w2]
      clear w1 w2
      have w3 : wrap64 (a / 2 + b / 2) = a / 2 + b / 2 := by unfold wrap64; omega
      have w4 : wrap64 (a % 2 + b % 2) = a % 2 + b % 2 := by unfold wrap64; omega
      rw [w3, w4]
      clear w3 w4
      have w5 : wrap64 (a / 2 + b / 2 + 1) = a / 2 + b / 2 + 1 := by unfold wrap64; omega
      rw [w5]
      clear w5
      by_cases h2 : a % 2 + b % 2 = 2
      · rw [if_pos h2]
        by_cases h3 : a / 2 + b / 2 + 1 > 4611686018427387903
        · rw [if_pos h3, if_pos (by omega)]
        · rw [if_neg h3, if_neg (by omega)]
          have w6 : wrap64 (2 * (a / 2 + b / 2 + 1)) = 2 * (a / 2 + b / 2 + 1) := by unfold wrap64; omega
          rw [w6]
          clear w6
          have w7 : wrap64 (2 * (a / 2 + b / 2 + 1) + 0) = a + b := by unfold wrap64; omega
          rw [w7]
      · rw [if_neg h2]
        by_cases h3 : a / 2 + b / 2 > 4611686018427387903
        · rw [if_pos h3, if_pos (by omega)]
        · rw [if_neg h3, if_neg (by omega)]
          have w6 : wrap64 (2 * (a / 2 + b / 2)) = 2 * (a / 2 + b / 2) := by unfold wrap64; omega
          rw [w6]
          clear w6
          have w7 : wrap64 (2 * (a / 2 + b / 2) + (a % 2 + b % 2)) = a + b := by unfold wrap64; omega
          rw [w7]
theorem refsub_f {k : Nat} {a b : Int} (hk : 0 < k) (ha : a ≤ 9223372036854775807) : quartermasterref16_Sub.f k a b = some (subN a b) := by
  obtain ⟨k, rfl⟩ : ∃ m, k = m + 1 := ⟨k - 1, by omega⟩
  unfold quartermasterref16_Sub.f subN
  by_cases h0 : a < 0
  · rw [if_pos h0, if_pos h0]; simp only [quartermasterref16_Sub.j0, if_true]
  · rw [if_neg h0, if_neg h0]
    by_cases h1 : b < 0
    · have e : decide (b < 0) = true := decide_eq_true h1
      rw [e, if_pos h1]; simp only [quartermasterref16_Sub.j0, if_true]
    · have e : decide (b < 0) = false := decide_eq_false h1
      rw [e, if_neg h1]; simp only [quartermasterref16_Sub.j0, Bool.false_eq_true, if_false]
      by_cases h2 : b > a
      · rw [if_pos (by omega), if_pos h2]
      · rw [if_neg (by omega), if_neg h2]
        have w2 : wrap64 (a - b) = a - b := by unfold wrap64; omega
        rw [w2]

/-- By how many an entry turns its pair. -/
def byS (x : S35) : Int := if x.f0 = 4 ∨ x.f0 = 5 then -x.f3 else x.f3
theorem byS_b {x : S35} (h : OkE x) (hq : -9223372036854775808 ≤ x.f3 ∧ x.f3 ≤ 9223372036854775807) : -9223372036854775807 ≤ byS x ∧ byS x ≤ 9223372036854775807 ∧ byS x ≠ 0 := by
  have h2 := h.q2
  have h3 := h.q
  unfold byS
  by_cases e : x.f0 = 4 ∨ x.f0 = 5
  · rw [if_pos e]
    have := h3 (by omega)
    omega
  · rw [if_neg e]
    by_cases e2 : x.f0 = 2
    · have := h2 e2
      omega
    · have := h3 e2
      omega
theorem by_f {x : S35} (h : OkE x) (hq : -9223372036854775808 ≤ x.f3 ∧ x.f3 ≤ 9223372036854775807) : trail_by.f x.f0 x.f1 x.f2 x.f3 = some (byS x) := by
  unfold trail_by.f byS
  by_cases e4 : x.f0 = 4
  · rw [if_pos e4, if_pos (.inl e4)]
    have := h.q (by omega)
    have w : wrap64 (-x.f3) = -x.f3 := by unfold wrap64; omega
    rw [w]
  · rw [if_neg e4]
    by_cases e5 : x.f0 = 5
    · rw [if_pos e5, if_pos (.inr e5)]
      have := h.q (by omega)
      have w : wrap64 (-x.f3) = -x.f3 := by unfold wrap64; omega
      rw [w]
    · rw [if_neg e5, if_neg (by omega)]
/-- An entry more of the pair. -/
def stepN (n : Int) (x : S35) : Int × Int := if byS x < 0 then subN n (-byS x) else addN n (byS x)
def ofPair (s l : Int) (x : S35) : Bool := decide (x.f1 = s) && decide (x.f2 = l)
/-- The sum of entries. -/
def sumN (s l : Int) : Int → List S35 → Int × Int
  | n, [] => (n, 0)
  | n, x :: r => if ofPair s l x = true then (if (stepN n x).2 = 0 then sumN s l (stepN n x).1 r else (0, (stepN n x).2)) else sumN s l n r
theorem stepN_cases {n : Int} {x : S35} (h : OkE x) (hq : -9223372036854775808 ≤ x.f3 ∧ x.f3 ≤ 9223372036854775807) (h0 : 0 ≤ n) (h1 : n ≤ 9223372036854775807) :
    (byS x < 0 ∧ n < -byS x ∧ stepN n x = (0, 31)) ∨ (0 < byS x ∧ n + byS x > 9223372036854775807 ∧ stepN n x = (0, 30)) ∨ (0 ≤ n + byS x ∧ n + byS x ≤ 9223372036854775807 ∧ stepN n x = (n + byS x, 0)) := by
  obtain ⟨b0, b1, b2⟩ := byS_b h hq
  unfold stepN subN addN
  by_cases hb : byS x < 0
  · rw [if_pos hb, if_neg (by omega), if_neg (by omega)]
    by_cases hc : -byS x > n
    · rw [if_pos hc]; exact .inl ⟨hb, by omega, rfl⟩
    · rw [if_neg hc]; exact .inr (.inr ⟨by omega, by omega, by rw [show n - -byS x = n + byS x by omega]⟩)
  · rw [if_neg hb, if_neg (by omega), if_neg (by omega)]
    by_cases hc : n + byS x > 9223372036854775807
    · rw [if_pos hc]; exact .inr (.inl ⟨by omega, hc, rfl⟩)
    · rw [if_neg hc]; exact .inr (.inr ⟨by omega, by omega, rfl⟩)
theorem stepN_b {n : Int} {x : S35} (h : OkE x) (hq : -9223372036854775808 ≤ x.f3 ∧ x.f3 ≤ 9223372036854775807) (h0 : 0 ≤ n) (h1 : n ≤ 9223372036854775807) : 0 ≤ (stepN n x).1 ∧ (stepN n x).1 ≤ 9223372036854775807 := by
  rcases stepN_cases h hq h0 h1 with ⟨_, _, e⟩ | ⟨_, _, e⟩ | ⟨a, b, e⟩ <;> rw [e]
  · exact ⟨by decide, by decide⟩
  · exact ⟨by decide, by decide⟩
  · exact ⟨a, b⟩
/-- Entries that may be. -/
def OkL (l : List S35) : Prop := ∀ x ∈ l, OkE x ∧ -9223372036854775808 ≤ x.f3 ∧ x.f3 ≤ 9223372036854775807
theorem okL_of {l : List S35} (hm : ∀ x ∈ l, oddS x = false) (hq : ∀ x ∈ l, qT35 x) : OkL l := fun x hx => ⟨okE_of (hm x hx), wfb (hq x hx).2.2.2⟩
theorem rd_at {l : List S35} {i : Nat} (h : i < l.length) : rd_T35 l (i : Int) ∈ l := by simp [rd_T35, h]
theorem rd_drop {l : List S35} {i : Nat} (h : i < l.length) : l.drop i = rd_T35 l i :: l.drop (i + 1) := by
  rw [List.drop_eq_getElem_cons h]; simp [rd_T35, h]
theorem ofPair_yes {s l : Int} {x : S35} (h : x.f1 = s) (h2 : (x.f2 != l) = false) : ofPair s l x = true := by
  have : x.f2 = l := by simpa using h2
  unfold ofPair; rw [decide_eq_true h, decide_eq_true this]; rfl

theorem sum_l {l : List S35} {s p : Int} (hl : l.length ≤ 9223372036854775806) (hx : OkL l) (d : Nat) : ∀ (k i : Nat) (n : Int), i + d = l.length → 2 * d + 3 < k → 0 ≤ n → n ≤ 9223372036854775807 →
    trail_Sum.l0 k s p n l l.length i = some (sumN s p n (l.drop i)) := by
  induction d with
  | zero =>
    intro k i n h hk h0 hn
    obtain ⟨k, rfl⟩ : ∃ m, k = m + 1 := ⟨k - 1, by omega⟩
    simp only [trail_Sum.l0]
    rw [if_neg (by omega), List.drop_of_length_le (by omega)]; rfl
  | succ d ih =>
    intro k i n h hk h0 hn
    obtain ⟨k, rfl⟩ : ∃ m, k = m + 2 := ⟨k - 2, by omega⟩
    have hi : i < l.length := by omega
    obtain ⟨hE, hq⟩ := hx _ (rd_at hi)
    have ew : wrap64 ((i : Int) + 1) = ((i + 1 : Nat) : Int) := by unfold wrap64; omega
    simp only [trail_Sum.l0]
    rw [if_pos (by omega), if_pos (by omega), if_pos (by omega), rd_drop hi, sumN]
    generalize rd_T35 l i = x at hE hq ⊢
    have J : ∀ b : Bool, ofPair s p x = !b → trail_Sum.j1 (k + 1) s p n l l.length i b x.f0 x.f1 x.f2 x.f3 = some (if ofPair s p x = true then (if (stepN n x).2 = 0 then sumN s p (stepN n x).1 (l.drop (i + 1)) else (0, (stepN n x).2)) else sumN s p n (l.drop (i + 1))) := by
      intro b hb
      cases b with
      | true =>
        simp only [trail_Sum.j1, if_true]
        rw [hb, ew]
        clear ew
        simp only [Bool.not_true, Bool.false_eq_true, if_false]
        exact ih k (i + 1) n (by omega) (by omega) h0 hn
      | false =>
        simp only [trail_Sum.j1, Bool.false_eq_true, if_false]
        rw [hb, by_f hE hq, ew]
        clear ew
        obtain ⟨b0, b1, b2⟩ := byS_b hE hq
        have hsb := stepN_b hE hq h0 hn
        simp only [Option.bind_some, Bool.not_false, if_true]
        by_cases hneg : byS x < 0
        · have ew2 : wrap64 (-byS x) = -byS x := by unfold wrap64; omega
          rw [if_pos hneg, ew2, sub_f (by omega) hn]
          clear ew2
          have es : subN n (-byS x) = stepN n x := by unfold stepN; rw [if_pos hneg]
          rw [es]
          simp only [Option.bind_some]
          by_cases hz : (stepN n x).2 = 0
          · rw [if_pos hz, if_pos hz]; exact ih k (i + 1) _ (by omega) (by omega) hsb.1 hsb.2
          · rw [if_neg hz, if_neg hz]
        · rw [if_neg hneg, add_f (by omega) hn (by omega)]
          have es : addN n (byS x) = stepN n x := by unfold stepN; rw [if_neg hneg]
          rw [es]
          simp only [Option.bind_some]
          by_cases hz : (stepN n x).2 = 0
          · rw [if_pos hz, if_pos hz]; exact ih k (i + 1) _ (by omega) (by omega) hsb.1 hsb.2
          · rw [if_neg hz, if_neg hz]
    by_cases hs : x.f1 = s
    · rw [if_pos hs]
      exact J _ (by unfold ofPair; rw [decide_eq_true hs]; cases hb : decide (x.f2 = p) <;> simp at hb <;> simp [hb])
    · rw [if_neg hs]
      exact J _ (by unfold ofPair; rw [decide_eq_false hs]; rfl)
theorem sum_f {k : Nat} {l : List S35} {s p : Int} (hq : ∀ x ∈ l, qT35 x) (hk : 140 < k) : trail_Sum.f k l s p = some (if mayS l = true then sumN s p 0 l else (0, 1)) := by
  unfold trail_Sum.f trail_May.f
  simp only [Option.bind_some]
  by_cases hm : mayS l = true
  · obtain ⟨hl, ho⟩ := okE_all hm
    rw [if_pos hm, if_pos hm]
    have := sum_l (s := s) (p := p) (by omega) (okL_of ho hq) l.length k 0 0 (by omega) (by omega) (by omega) (by omega)
    rw [show ((0 : Nat) : Int) = 0 from rfl, List.drop_zero] at this
    exact this
  · rw [if_neg hm, if_neg hm]
theorem page_f {l : List S35} {a b : Int} (hl : l.length ≤ 9223372036854775807) : trail_Page.f l a b = some (if mayS l = true ∧ 0 ≤ a ∧ a < l.length ∧ 0 < b then (l.drop a.toNat).take b.toNat else []) := by
  unfold trail_Page.f trail_May.f
  simp only [Option.bind_some]
  by_cases hm : mayS l = true
  · obtain ⟨h64, _⟩ := okE_all hm
    rw [if_pos hm]
    by_cases h1 : a < 0
    · rw [if_pos h1, if_neg (by omega)]
    rw [if_neg h1]
    by_cases h2 : a ≥ (l.length : Int)
    · rw [if_pos h2, if_neg (by omega)]
    rw [if_neg h2]
    by_cases h3 : b ≤ 0
    · rw [if_pos h3, if_neg (by omega)]
    rw [if_neg h3, if_pos (show 0 ≤ a by omega), if_pos (show a ≤ (l.length : Int) by omega), if_pos (show mayS l = true ∧ 0 ≤ a ∧ a < (l.length : Int) ∧ 0 < b from ⟨hm, by omega, by omega, by omega⟩)]
    have ew : wrap64 ((l.length : Int) - a) = (l.length : Int) - a := by unfold wrap64; omega
    rw [ew]
    clear ew
    have hmn : mn b ((l.length : Int) - a) = if b ≤ (l.length : Int) - a then b else (l.length : Int) - a := by unfold mn; split <;> split <;> omega
    rw [hmn]
    have hd : (l.drop a.toNat).length = l.length - a.toNat := by simp
    by_cases h4 : b ≤ (l.length : Int) - a
    · rw [if_pos h4, if_pos (by omega), if_pos (by omega)]
      unfold slices_Clone35.f
      rw [if_pos (by simp; omega)]; rfl
    · rw [if_neg h4, if_pos (by omega), if_pos (by omega)]
      unfold slices_Clone35.f
      rw [if_pos (by simp; omega)]
      have : (l.drop a.toNat).take ((l.length : Int) - a).toNat = (l.drop a.toNat).take b.toNat := by
        rw [List.take_of_length_le (by omega), List.take_of_length_le (by omega)]
      rw [this]; rfl
  · rw [if_neg hm, if_neg (by simp [hm])]

theorem same_l {a : List S35} (hl : a.length ≤ 9223372036854775806) (d : Nat) : ∀ (k i : Nat), i + d = a.length → d < k → quartermasterref19_Same.l0 k a a i = some true := by
  induction d with
  | zero =>
    intro k i h hk
    obtain ⟨k, rfl⟩ : ∃ m, k = m + 1 := ⟨k - 1, by omega⟩
    simp only [quartermasterref19_Same.l0]
    rw [if_neg (by omega)]
  | succ d ih =>
    intro k i h hk
    obtain ⟨k, rfl⟩ : ∃ m, k = m + 1 := ⟨k - 1, by omega⟩
    simp only [quartermasterref19_Same.l0]
    have ew : wrap64 ((i : Int) + 1) = ((i + 1 : Nat) : Int) := by unfold wrap64; omega
    rw [if_pos (by omega), if_pos (by omega), if_pos (by omega), if_neg (by simp), ew]
    exact ih k (i + 1) (by omega) (by omega)
theorem same_f {k : Nat} {a : List S35} (hl : a.length ≤ 9223372036854775806) (hk : a.length < k) : quartermasterref19_Same.f k a a = some true := by
  unfold quartermasterref19_Same.f
  rw [if_pos rfl]
  exact same_l hl a.length k 0 (by omega) hk
theorem awake_f {k : Nat} (hk : 150 < k) : quartermasterlaw19_awake.f k = some true := by
  have q1 : ∀ x ∈ ([⟨1, 1, 0, 9⟩, ⟨5, 1, 0, 2⟩, ⟨2, 1, 0, -3⟩] : List S35), qT35 x := by
    intro x hx
    simp at hx
    rcases hx with rfl | rfl | rfl <;> exact ⟨by decide, by decide, by decide, by decide⟩
  have q2 : ∀ x ∈ ([⟨5, 1, 0, 2⟩, ⟨1, 1, 0, 9⟩] : List S35), qT35 x := by
    intro x hx
    simp at hx
    rcases hx with rfl | rfl <;> exact ⟨by decide, by decide, by decide, by decide⟩
  unfold quartermasterlaw19_awake.f trail_Add.f
  rw [if_pos (by simp)]
  have e1 : Ext.addS ([] : List S35) ([⟨1, 1, 0, 9⟩, ⟨5, 1, 0, 2⟩, ⟨2, 1, 0, -3⟩] : List S35) = ([⟨1, 1, 0, 9⟩, ⟨5, 1, 0, 2⟩, ⟨2, 1, 0, -3⟩], 0) := by rfl
  rw [e1]
  simp only [Option.bind_some]
  rw [sum_f q1 (by omega), sum_f q2 (by omega), page_f (by simp)]
  rfl

end Go.Proofs.Ythgganjnodoldaa.Pure
