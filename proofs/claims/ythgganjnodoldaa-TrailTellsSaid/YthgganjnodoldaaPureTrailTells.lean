/- Whatever is asked of any trail whatsoever is what the document says: the law over numbers and lists. At most 100 entries, 20 more, as the statement itself bounds them. -/
import Derived.Test.YthgganjnodoldaaPureTrail
namespace Go.Proofs.Ythgganjnodoldaa.Pure
open Go.RowKit Go.Proofs.Ythgganjnodoldaa.Pa Go.Proofs.Ythgganjnodoldaa.Ext Go.Proofs.Ythgganjnodoldaa.Px Go.Proofs.YthgganjnodoldaaW.PrintWords Go.Proofs.YthgganjnodoldaaW.PrintLast


theorem one_f {k : Nat} {x : S35} (hk : 0 < k) (hq : qT35 x) : quartermasterref19_one.f k x.f0 x.f1 x.f2 x.f3 = some (!(oddS x)) := by
  obtain ⟨k, rfl⟩ : ∃ m, k = m + 1 := ⟨k - 1, by omega⟩
  obtain ⟨q0, q1⟩ := wfb hq.2.2.2
  unfold quartermasterref19_one.f oddS
  by_cases h1 : x.f0 < 1
  · rw [if_pos h1]; simp [quartermasterref19_one.j0, h1]
  rw [if_neg h1]
  by_cases h2 : x.f0 > 5
  · rw [if_pos h2]; simp [quartermasterref19_one.j0, h2]
  rw [if_neg h2]
  by_cases h3 : x.f1 < 0
  · rw [if_pos h3]; simp [quartermasterref19_one.j0, h3]
  rw [if_neg h3]
  by_cases h4 : x.f1 > 15
  · rw [if_pos h4]
    have h4' : x.f1 ≥ 16 := by omega
    simp [quartermasterref19_one.j0, h4']
  rw [if_neg h4]
  by_cases h5 : x.f2 < 0
  · rw [if_pos h5]; simp [quartermasterref19_one.j0, h5]
  rw [if_neg h5]
  by_cases h6 : x.f2 > 3
  · have h6' : x.f2 ≥ 4 := by omega
    rw [decide_eq_true h6]; simp [quartermasterref19_one.j0, h6']
  rw [decide_eq_false h6]
  simp only [quartermasterref19_one.j0, Bool.false_eq_true, if_false, decide_eq_false h1, decide_eq_false h2, decide_eq_false h3, decide_eq_false (show ¬ x.f1 ≥ 16 by omega), decide_eq_false h5, decide_eq_false (show ¬ x.f2 ≥ 4 by omega), Bool.false_or]
  by_cases h7 : x.f0 = 2
  · rw [if_pos h7, if_pos h7]
    by_cases h8 : x.f3 = 0
    · rw [if_pos h8, h8]; rfl
    · rw [if_neg h8, beq_eq_false_iff_ne.2 h8, Bool.false_or]
      by_cases h9 : x.f3 = -9223372036854775808
      · rw [h9]; rfl
      · rw [decide_eq_true (by omega), beq_eq_false_iff_ne.2 h9]; rfl
  · rw [if_neg h7, if_neg h7]
    by_cases h8 : x.f3 ≤ 0
    · rw [decide_eq_true h8, decide_eq_false (by omega)]; rfl
    · rw [decide_eq_false h8, decide_eq_true (by omega)]; rfl
theorem may_l {l : List S35} (hl : l.length ≤ 1000) (hq : ∀ x ∈ l, qT35 x) (d : Nat) : ∀ (k i : Nat), i + d = l.length → d + 1 < k →
    quartermasterref19_May.l0 k l i = some (decide (l.length ≤ 64) && !((l.drop i).any oddS)) := by
  induction d with
  | zero =>
    intro k i h hk
    obtain ⟨k, rfl⟩ : ∃ m, k = m + 1 := ⟨k - 1, by omega⟩
    simp only [quartermasterref19_May.l0]
    rw [if_neg (by omega), List.drop_of_length_le (by omega)]
    have : decide ((l.length : Int) ≤ 64) = decide (l.length ≤ 64) := by rw [decide_eq_decide]; omega
    rw [this]; simp
  | succ d ih =>
    intro k i h hk
    obtain ⟨k, rfl⟩ : ∃ m, k = m + 1 := ⟨k - 1, by omega⟩
    have hi : i < l.length := by omega
    have ew : wrap64 ((i : Int) + 1) = ((i + 1 : Nat) : Int) := by unfold wrap64; omega
    simp only [quartermasterref19_May.l0]
    rw [if_pos (by omega), if_pos (by omega), one_f (by omega) (hq _ (rd_at hi)), rd_drop hi, ew]
    clear ew
    generalize rd_T35 l i = x
    simp only [Option.bind_some, List.any_cons]
    by_cases ho : oddS x = true
    · simp [ho]
    · have ho' : oddS x = false := by simpa using ho
      simp only [ho', Bool.not_false, if_true, Bool.false_or]
      exact ih k (i + 1) (by omega) (by omega)
theorem refmay_f {k : Nat} {l : List S35} (hl : l.length ≤ 1000) (hq : ∀ x ∈ l, qT35 x) (hk : l.length + 1 < k) : quartermasterref19_May.f k l = some (mayS l) := by
  unfold quartermasterref19_May.f
  have := may_l hl hq l.length k 0 (by omega) hk
  rw [show ((0 : Nat) : Int) = 0 from rfl, List.drop_zero] at this
  exact this
theorem add_l {l m : List S35} (hl : l.length ≤ 1000) (hml : m.length ≤ 1000) (hq : ∀ x ∈ m, qT35 x) (d : Nat) : ∀ (k i : Nat), i + d = m.length → d + 1 < k →
    quartermasterref19_Add.l0 k l m i = some (if (m.drop i).any oddS = true then ([], 1) else if l.length + m.length > 64 then ([], 4) else (l ++ m, 0)) := by
  induction d with
  | zero =>
    intro k i h hk
    obtain ⟨k, rfl⟩ : ∃ m, k = m + 1 := ⟨k - 1, by omega⟩
    simp only [quartermasterref19_Add.l0]
    have ew : wrap64 ((l.length : Int) + (m.length : Int)) = ((l.length + m.length : Nat) : Int) := by unfold wrap64; omega
    rw [if_neg (by omega), List.drop_of_length_le (by omega), ew]
    clear ew
    simp only [List.any_nil, Bool.false_eq_true, if_false]
    by_cases hs : l.length + m.length > 64
    · rw [if_pos (by omega), if_pos hs]
    · rw [if_neg (by omega), if_neg hs, if_pos (by simp; omega)]
      simp only [Option.bind_some, List.nil_append]
      rw [if_pos (by omega)]
  | succ d ih =>
    intro k i h hk
    obtain ⟨k, rfl⟩ : ∃ m, k = m + 1 := ⟨k - 1, by omega⟩
    have hi : i < m.length := by omega
    have ew : wrap64 ((i : Int) + 1) = ((i + 1 : Nat) : Int) := by unfold wrap64; omega
    simp only [quartermasterref19_Add.l0]
    rw [if_pos (by omega), if_pos (by omega), one_f (by omega) (hq _ (rd_at hi)), rd_drop hi, ew]
    clear ew
    generalize rd_T35 m i = x
    simp only [Option.bind_some, List.any_cons]
    by_cases ho : oddS x = true
    · simp [ho]
    · have ho' : oddS x = false := by simpa using ho
      simp only [ho', Bool.not_false, if_true, Bool.false_or]
      exact ih k (i + 1) (by omega) (by omega)
theorem refadd_f2 {k : Nat} {l m : List S35} (hl : l.length ≤ 1000) (hml : m.length ≤ 1000) (hql : ∀ x ∈ l, qT35 x) (hq : ∀ x ∈ m, qT35 x) (hk : l.length + m.length + 1 < k) : quartermasterref19_Add.f k l m = some (Ext.addS l m) := by
  unfold quartermasterref19_Add.f Ext.addS
  rw [refmay_f hl hql (by omega)]
  simp only [Option.bind_some]
  by_cases hm : mayS l = true
  · have := add_l hl hml hq m.length k 0 (by omega) (by omega)
    rw [show ((0 : Nat) : Int) = 0 from rfl, List.drop_zero] at this
    rw [if_pos hm, this, if_neg (show ¬ mayS l = false by rw [hm]; decide)]
  · have hm' : mayS l = false := by simpa using hm
    rw [if_neg hm, if_pos hm']

theorem refsum_l {l : List S35} {s p : Int} (hl : l.length ≤ 9223372036854775806) (hx : OkL l) (d : Nat) : ∀ (k i : Nat) (n : Int), i + d = l.length → 4 * d + 5 < k → 0 ≤ n → n ≤ 9223372036854775807 →
    quartermasterref19_Sum.l0 k l s p n i = some (sumN s p n (l.drop i)) := by
  induction d with
  | zero =>
    intro k i n h hk h0 hn
    obtain ⟨k, rfl⟩ : ∃ m, k = m + 1 := ⟨k - 1, by omega⟩
    simp only [quartermasterref19_Sum.l0]
    rw [if_neg (by omega), List.drop_of_length_le (by omega)]; rfl
  | succ d ih =>
    intro k i n h hk h0 hn
    obtain ⟨k, rfl⟩ : ∃ m, k = m + 4 := ⟨k - 4, by omega⟩
    have hi : i < l.length := by omega
    obtain ⟨hE, hq⟩ := hx _ (rd_at hi)
    have ew : wrap64 ((i : Int) + 1) = ((i + 1 : Nat) : Int) := by unfold wrap64; omega
    simp only [quartermasterref19_Sum.l0]
    rw [if_pos (by omega), if_pos (by omega), rd_drop hi, sumN]
    generalize rd_T35 l i = x at hE hq ⊢
    have hsb := stepN_b hE hq h0 hn
    obtain ⟨b0, b1, b2⟩ := byS_b hE hq
    -- behind the step
    have E : ∀ (k' : Nat) (t : Int × Int), t = stepN n x → 4 * d + 5 < k' → (if t.2 = 0 then quartermasterref19_Sum.l0 k' l s p t.1 (wrap64 ((i : Int) + 1)) else some (0, t.2)) = some (if (stepN n x).2 = 0 then sumN s p (stepN n x).1 (l.drop (i + 1)) else (0, (stepN n x).2)) := by
      intro k' t ht hk'
      rw [ht, ew]
      by_cases hz : (stepN n x).2 = 0
      · rw [if_pos hz, if_pos hz]; exact ih k' (i + 1) _ (by omega) hk' hsb.1 hsb.2
      · rw [if_neg hz, if_neg hz]
    have J : ∀ b : Bool, ofPair s p x = !b → quartermasterref19_Sum.j1 (k + 3) l s p n i b x.f0 x.f1 x.f2 x.f3 = some (if ofPair s p x = true then (if (stepN n x).2 = 0 then sumN s p (stepN n x).1 (l.drop (i + 1)) else (0, (stepN n x).2)) else sumN s p n (l.drop (i + 1))) := by
      intro b hb
      cases b with
      | true =>
        simp only [quartermasterref19_Sum.j1, if_true]
        rw [hb, ew]
        simp only [Bool.not_true, Bool.false_eq_true, if_false]
        exact ih _ (i + 1) n (by omega) (by omega) h0 hn
      | false =>
        simp only [quartermasterref19_Sum.j1, Bool.false_eq_true, if_false]
        rw [hb]
        clear ew
        simp only [Bool.not_false, if_true]
        have hq2 := hE.q2
        have hq3 := hE.q
        have hk0 := hE.k0
        have hk1 := hE.k1
        by_cases e1 : x.f0 = 1 ∨ x.f0 = 3
        · have hs : byS x = x.f3 := by unfold byS; rw [if_neg (by omega)]
          have hp := hq3 (by omega)
          have J2 : quartermasterref19_Sum.j2 (k + 2) l s p n i x.f0 true x.f0 x.f1 x.f2 x.f3 = some (if (stepN n x).2 = 0 then sumN s p (stepN n x).1 (l.drop (i + 1)) else (0, (stepN n x).2)) := by
            simp only [quartermasterref19_Sum.j2, if_true]
            rw [refadd_f (by omega) hn (by omega)]
            simp only [Option.bind_some]
            refine E _ _ ?_ (by omega)
            unfold stepN; rw [hs, if_neg (by omega)]
          by_cases e2 : x.f0 = 1
          · rw [if_pos e2, beq_iff_eq.2 e2]; exact J2
          · rw [if_neg e2, beq_iff_eq.2 (show x.f0 = 3 by omega)]; exact J2
        · rw [if_neg (by omega), beq_eq_false_iff_ne.2 (show x.f0 ≠ 3 by omega)]
          simp only [quartermasterref19_Sum.j2, Bool.false_eq_true, if_false]
          by_cases e4 : x.f0 = 4 ∨ x.f0 = 5
          · have hs : byS x = -x.f3 := by unfold byS; rw [if_pos e4]
            have hp := hq3 (by omega)
            have J3 : quartermasterref19_Sum.j3 (k + 1) l s p n i true x.f0 x.f1 x.f2 x.f3 = some (if (stepN n x).2 = 0 then sumN s p (stepN n x).1 (l.drop (i + 1)) else (0, (stepN n x).2)) := by
              simp only [quartermasterref19_Sum.j3, if_true]
              rw [refsub_f (by omega) hn]
              simp only [Option.bind_some]
              refine E _ _ ?_ (by omega)
              unfold stepN; rw [hs, if_pos (by omega), Int.neg_neg]
            by_cases e5 : x.f0 = 4
            · rw [if_pos e5, beq_iff_eq.2 e5]; exact J3
            · rw [if_neg e5, beq_iff_eq.2 (show x.f0 = 5 by omega)]; exact J3
          · have hs : byS x = x.f3 := by unfold byS; rw [if_neg e4]
            rw [if_neg (by omega), beq_eq_false_iff_ne.2 (show x.f0 ≠ 5 by omega)]
            simp only [quartermasterref19_Sum.j3, Bool.false_eq_true, if_false]
            by_cases hp : x.f3 > 0
            · rw [if_pos hp, refadd_f (by omega) hn (by omega)]
              simp only [Option.bind_some]
              refine E _ _ ?_ (by omega)
              unfold stepN; rw [hs, if_neg (by omega)]
            · have hw : wrap64 (-x.f3) = -x.f3 := by unfold wrap64; omega
              rw [if_neg hp, hw, refsub_f (by omega) hn]
              simp only [Option.bind_some]
              refine E _ _ ?_ (by omega)
              unfold stepN; rw [hs, if_pos (by omega)]
    by_cases hs : x.f1 = s
    · rw [if_pos hs]
      exact J _ (by unfold ofPair; rw [decide_eq_true hs]; cases hb : decide (x.f2 = p) <;> simp at hb <;> simp [hb])
    · rw [if_neg hs]
      exact J _ (by unfold ofPair; rw [decide_eq_false hs]; rfl)
theorem refsum_f {k : Nat} {l : List S35} {s p : Int} (hl : l.length ≤ 1000) (hq : ∀ x ∈ l, qT35 x) (hk : 4010 < k) : quartermasterref19_Sum.f k l s p = some (if mayS l = true then sumN s p 0 l else (0, 1)) := by
  unfold quartermasterref19_Sum.f
  rw [refmay_f hl hq (by omega)]
  simp only [Option.bind_some]
  by_cases hm : mayS l = true
  · obtain ⟨hl, ho⟩ := okE_all hm
    rw [if_pos hm, if_pos hm]
    have := refsum_l (s := s) (p := p) (by omega) (okL_of ho hq) l.length k 0 0 (by omega) (by omega) (by omega) (by omega)
    rw [show ((0 : Nat) : Int) = 0 from rfl, List.drop_zero] at this
    exact this
  · rw [if_neg hm, if_neg hm]
theorem refpage_l {l : List S35} {b : Int} (hl : l.length ≤ 1000) (d : Nat) : ∀ (k i : Nat) (o : List S35), i + d = l.length → d + 1 < k → o.length ≤ i →
    quartermasterref19_Page.l0 k l b o i = some (o ++ (l.drop i).take (b - o.length).toNat) := by
  induction d with
  | zero =>
    intro k i o h hk ho
    obtain ⟨k, rfl⟩ : ∃ m, k = m + 1 := ⟨k - 1, by omega⟩
    simp only [quartermasterref19_Page.l0]
    rw [if_neg (by omega), List.drop_of_length_le (by omega)]; simp
  | succ d ih =>
    intro k i o h hk ho
    obtain ⟨k, rfl⟩ : ∃ m, k = m + 1 := ⟨k - 1, by omega⟩
    have hi : i < l.length := by omega
    have ew : wrap64 ((i : Int) + 1) = ((i + 1 : Nat) : Int) := by unfold wrap64; omega
    simp only [quartermasterref19_Page.l0]
    rw [if_pos (by omega), rd_drop hi, ew]
    clear ew
    by_cases hb : (o.length : Int) < b
    · rw [if_pos hb, if_pos (by omega), if_pos (by omega), ih k (i + 1) _ (by omega) (by omega) (by simp; omega)]
      have e1 : (b - (o.length : Int)).toNat = (b - ((o.length + 1 : Nat) : Int)).toNat + 1 := by omega
      rw [e1, List.take_succ_cons]
      simp
    · rw [if_neg hb, ih k (i + 1) o (by omega) (by omega) (by omega)]
      have e1 : (b - (o.length : Int)).toNat = 0 := by omega
      rw [e1]; simp
theorem refpage_f {k : Nat} {l : List S35} {a b : Int} (hl : l.length ≤ 1000) (hq : ∀ x ∈ l, qT35 x) (ha : -9223372036854775808 ≤ a ∧ a ≤ 9223372036854775807) (hk : 1010 < k) :
    quartermasterref19_Page.f k l a b = some (if mayS l = true ∧ 0 ≤ a ∧ a < l.length ∧ 0 < b then (l.drop a.toNat).take b.toNat else []) := by
  unfold quartermasterref19_Page.f
  obtain ⟨k, rfl⟩ : ∃ m, k = m + 1 := ⟨k - 1, by omega⟩
  rw [refmay_f hl hq (by omega)]
  simp only [Option.bind_some]
  by_cases hm : mayS l = true
  · rw [if_pos hm]
    by_cases h1 : a < 0
    · rw [decide_eq_true h1, if_neg (by omega)]; simp only [quartermasterref19_Page.j0, if_true]
    rw [decide_eq_false h1]
    simp only [quartermasterref19_Page.j0, Bool.false_eq_true, if_false]
    obtain ⟨i, rfl⟩ : ∃ i : Nat, a = (i : Int) := ⟨a.toNat, by omega⟩
    by_cases h2 : i < l.length
    · rw [refpage_l hl (l.length - i) k i [] (by omega) (by omega) (by simp)]
      by_cases h3 : 0 < b
      · rw [if_pos ⟨hm, by omega, by omega, h3⟩]; simp
      · rw [if_neg (by omega)]
        have e1 : (b - (([] : List S35).length : Int)).toNat = 0 := by simp; omega
        rw [e1]; simp
    · rw [if_neg (by omega)]
      obtain ⟨k, rfl⟩ : ∃ m, k = m + 1 := ⟨k - 1, by omega⟩
      simp only [quartermasterref19_Page.l0]
      rw [if_neg (by omega)]
  · rw [if_neg hm, if_neg (by simp [hm])]
    simp only [quartermasterref19_Page.j0, if_true]

theorem TrailTells : quartermasterlaw19_TrailTells.Pure := by
  intro l m s p a b hl hql hml hqm _ _ ha hb
  obtain ⟨k, hk⟩ : ∃ k : Nat, 5000 ≤ k := ⟨5000, Nat.le_refl _⟩
  refine ⟨k + 1, ?_⟩
  unfold quartermasterlaw19_TrailTells.f
  rw [awake_f (by omega)]
  simp only [Option.bind_some, if_true]
  have J1 : quartermasterlaw19_TrailTells.j0 (k + 1) l m s p a b true true = some true := by simp only [quartermasterlaw19_TrailTells.j0, if_true]
  by_cases h1 : (l.length : Int) > 100
  · rw [if_pos h1]; exact J1
  rw [if_neg h1]
  by_cases h2 : (m.length : Int) > 20
  · rw [decide_eq_true h2]; exact J1
  rw [decide_eq_false h2]
  simp only [quartermasterlaw19_TrailTells.j0, Bool.false_eq_true, if_false]
  unfold trail_Add.f trail_May.f
  have hadd : (Ext.addS l m).1.length ≤ 64 := by
    unfold Ext.addS
    split
    · simp
    split
    · simp
    split
    · simp
    · simp; omega
  rw [if_pos (by omega), refadd_f2 (by omega) (by omega) hql hqm (by omega)]
  simp only [Option.bind_some]
  rw [same_f (by omega) (by omega), sum_f hql (by omega), refsum_f (by omega) hql (by omega)]
  simp only [Option.bind_some]
  rw [page_f (by omega), refpage_f (by omega) hql (wfb ha) (by omega)]
  simp only [Option.bind_some]
  have hpl : (if mayS l = true ∧ 0 ≤ a ∧ a < l.length ∧ 0 < b then (l.drop a.toNat).take b.toNat else []).length ≤ l.length := by
    split
    · simp; omega
    · simp
  rw [same_f (by omega) (by omega), refmay_f (by omega) hql (by omega)]
  simp

end Go.Proofs.Ythgganjnodoldaa.Pure
