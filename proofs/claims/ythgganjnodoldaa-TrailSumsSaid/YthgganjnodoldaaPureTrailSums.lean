/- Where each entry adds what there is to one pair, the sum of a trail is that of its beginning, and what stands behind: the law over numbers and lists. At most 100 entries, as the statement itself bounds them. -/
import Derived.Test.YthgganjnodoldaaPx3
import Derived.Test.YthgganjnodoldaaPureTrailPairs
namespace Go.Proofs.Ythgganjnodoldaa.Pure
open Go.RowKit Go.Proofs.Ythgganjnodoldaa.Pa Go.Proofs.Ythgganjnodoldaa.Ext Go.Proofs.Ythgganjnodoldaa.Px Go.Proofs.YthgganjnodoldaaW.PrintWords Go.Proofs.YthgganjnodoldaaW.PrintLast


theorem sumN_append {s p : Int} : ∀ (a b : List S35) (n : Int), sumN s p n (a ++ b) = if (sumN s p n a).2 = 0 then sumN s p (sumN s p n a).1 b else sumN s p n a
  | [], b, n => by simp only [List.nil_append, sumN, if_true]
  | y :: a, b, n => by
    simp only [List.cons_append, sumN]
    by_cases hp : ofPair s p y = true
    · simp only [hp, if_true]
      by_cases hz : (stepN n y).2 = 0
      · simp only [hz, if_true]; exact sumN_append a b _
      · simp only [hz, if_false]
    · simp only [hp, Bool.false_eq_true, if_false]; exact sumN_append a b n
theorem sums_l {l : List S35} {s p : Int} (hl : l.length ≤ 1000) (hx : OkL l) (d : Nat) : ∀ (k i : Nat) (n t : Int), i + d = l.length → 3 * d + 4 < k → 0 ≤ n → n ≤ 9223372036854775807 → sumN s p n (l.drop i) = (t, 0) →
    quartermasterlaw19_TrailSums.l0 k l s p t n i = some true := by
  induction d with
  | zero =>
    intro k i n t h hk h0 hn ht
    obtain ⟨k, rfl⟩ : ∃ m, k = m + 1 := ⟨k - 1, by omega⟩
    simp only [quartermasterlaw19_TrailSums.l0]
    rw [List.drop_of_length_le (by omega)] at ht
    have e : n = t := (Prod.mk.inj ht).1
    rw [if_neg (by omega), e]; simp
  | succ d ih =>
    intro k i n t h hk h0 hn ht
    obtain ⟨k, rfl⟩ : ∃ m, k = m + 3 := ⟨k - 3, by omega⟩
    have hi : i < l.length := by omega
    obtain ⟨hE, hq⟩ := hx _ (rd_at hi)
    have ew : wrap64 ((i : Int) + 1) = ((i + 1 : Nat) : Int) := by unfold wrap64; omega
    rw [rd_drop hi, sumN] at ht
    simp only [quartermasterlaw19_TrailSums.l0]
    rw [if_pos (by omega), if_pos (by omega)]
    have J : ∀ b : Bool, ofPair s p (rd_T35 l i) = !b → quartermasterlaw19_TrailSums.j2 (k + 2) l s p t n i b = some true := by
      intro b hb
      cases b with
      | true =>
        simp only [quartermasterlaw19_TrailSums.j2, if_true]
        rw [hb] at ht
        rw [ew]
        clear ew
        exact ih _ (i + 1) n t (by omega) (by omega) h0 hn (by simpa using ht)
      | false =>
        simp only [quartermasterlaw19_TrailSums.j2, Bool.false_eq_true, if_false]
        rw [hb] at ht
        simp only [Bool.not_false, if_true] at ht
        rw [if_pos (by omega), if_pos (by omega)]
        have hk0 := hE.k0
        have hq3 := hE.q
        have c : 0 ≤ n + byS (rd_T35 l i) ∧ n + byS (rd_T35 l i) ≤ 9223372036854775807 ∧ stepN n (rd_T35 l i) = (n + byS (rd_T35 l i), 0) := by
          rcases stepN_cases hE hq h0 hn with ⟨_, _, e⟩ | ⟨_, _, e⟩ | h
          · rw [e, if_neg (by decide)] at ht; cases ht
          · rw [e, if_neg (by decide)] at ht; cases ht
          · exact h
        obtain ⟨c0, c1, e⟩ := c
        rw [e, if_pos rfl] at ht
        have K : ∀ b : Bool, b = (decide (byS (rd_T35 l i) = -(rd_T35 l i).f3)) → (b = false → byS (rd_T35 l i) = (rd_T35 l i).f3) → quartermasterlaw19_TrailSums.j3 (k + 1) l s p t n i b = some true := by
          intro b hb hb2
          cases b with
          | true =>
            have hs : byS (rd_T35 l i) = -(rd_T35 l i).f3 := by simpa using hb.symm
            simp only [quartermasterlaw19_TrailSums.j3, if_true]
            rw [if_pos (by omega), if_pos (by omega)]
            have hw : wrap64 (n - (rd_T35 l i).f3) = n + byS (rd_T35 l i) := by rw [hs] at c0 c1 ⊢; clear ew; unfold wrap64; omega
            rw [hw, ew]
            clear hw ew
            rw [if_neg (by omega)]
            exact ih _ (i + 1) _ t (by omega) (by omega) c0 c1 ht
          | false =>
            have hs := hb2 rfl
            simp only [quartermasterlaw19_TrailSums.j3, Bool.false_eq_true, if_false]
            rw [if_pos (by omega), if_pos (by omega)]
            have hw : wrap64 (n + (rd_T35 l i).f3) = n + byS (rd_T35 l i) := by rw [hs] at c0 c1 ⊢; clear ew; unfold wrap64; omega
            rw [hw, ew]
            clear hw ew
            rw [if_neg (by omega)]
            exact ih _ (i + 1) _ t (by omega) (by omega) c0 c1 ht
        by_cases e4 : (rd_T35 l i).f0 = 4
        · rw [if_pos e4]
          exact K true (decide_eq_true (show byS (rd_T35 l i) = -(rd_T35 l i).f3 by unfold byS; rw [if_pos (.inl e4)])).symm (fun h => by cases h)
        · rw [if_neg e4]
          by_cases e5 : (rd_T35 l i).f0 = 5
          · rw [beq_iff_eq.2 e5]
            exact K true (decide_eq_true (show byS (rd_T35 l i) = -(rd_T35 l i).f3 by unfold byS; rw [if_pos (.inr e5)])).symm (fun h => by cases h)
          · rw [beq_eq_false_iff_ne.2 e5]
            have hs : byS (rd_T35 l i) = (rd_T35 l i).f3 := by unfold byS; rw [if_neg (by omega)]
            have hne : (rd_T35 l i).f3 ≠ 0 := by
              by_cases e2 : (rd_T35 l i).f0 = 2
              · exact (hE.q2 e2).1
              · have := hq3 e2; omega
            exact K false (by rw [hs]; exact (decide_eq_false (by omega)).symm) (fun _ => hs)
    by_cases hs : (rd_T35 l i).f1 = s
    · rw [if_pos hs]
      exact J _ (by unfold ofPair; rw [decide_eq_true hs]; cases hb : decide ((rd_T35 l i).f2 = p) <;> simp at hb <;> simp [hb])
    · rw [if_neg hs]
      exact J _ (by unfold ofPair; rw [decide_eq_false hs]; rfl)
theorem TrailSums : quartermasterlaw19_TrailSums.Pure := by
  intro l s p a hl hql _ _ ha
  obtain ⟨k, hk⟩ : ∃ k : Nat, 5000 ≤ k := ⟨5000, Nat.le_refl _⟩
  refine ⟨k + 1, ?_⟩
  unfold quartermasterlaw19_TrailSums.f
  rw [awake_f (by omega)]
  simp only [Option.bind_some, if_true]
  have J1 : quartermasterlaw19_TrailSums.j0 (k + 1) l s p a true true = some true := by simp only [quartermasterlaw19_TrailSums.j0, if_true]
  by_cases h1 : (l.length : Int) > 100
  · rw [if_pos h1]; exact J1
  rw [if_neg h1]
  by_cases h2 : a < 0
  · rw [if_pos h2]; exact J1
  rw [if_neg h2]
  by_cases h3 : a > (l.length : Int)
  · rw [if_pos h3]; exact J1
  rw [if_neg h3]
  unfold trail_May.f
  simp only [Option.bind_some]
  by_cases hm : mayS l = true
  · obtain ⟨h64, hol⟩ := okE_all hm
    have hOk := okL_of hol hql
    have hm2 : mayS (l.take a.toNat) = true := by
      unfold mayS
      have hal : (l.take a.toNat).any oddS = false := by rw [List.any_eq_false]; intro y hy; simp [hol y (List.mem_of_mem_take hy)]
      rw [hal]
      simp; omega
    rw [hm]
    simp only [quartermasterlaw19_TrailSums.j0, Bool.not_true, Bool.false_eq_true, if_false]
    rw [sum_f hql (by omega), Option.bind_some, if_pos (show 0 ≤ a by omega), if_pos (show a ≤ (l.length : Int) by omega), sum_f (fun y hy => hql y (List.mem_of_mem_take hy)) (by omega)]
    simp only [Option.bind_some, hm, hm2, if_true]
    have happ := sumN_append (s := s) (p := p) (l.take a.toNat) (l.drop a.toNat) 0
    rw [List.take_append_drop] at happ
    obtain ⟨b0, b1, b2⟩ := sumN_b (s := s) (p := p) (l.take a.toNat) 0 (fun y hy => hOk y (List.mem_of_mem_take hy)) (by omega) (by omega)
    obtain ⟨_, _, b3⟩ := sumN_b (s := s) (p := p) l 0 hOk (by omega) (by omega)
    by_cases hz : (sumN s p 0 l).2 = 0
    · rw [if_pos hz]
      by_cases hz2 : (sumN s p 0 (l.take a.toNat)).2 = 0
      · rw [if_pos hz2]
        rw [if_pos hz2] at happ
        have := sums_l (s := s) (p := p) (by omega) hOk (l.length - a.toNat) k a.toNat (sumN s p 0 (l.take a.toNat)).1 (sumN s p 0 l).1 (by omega) (by omega) b0 b1 (by rw [← happ]; exact Prod.ext rfl hz)
        rw [show ((a.toNat : Nat) : Int) = a by omega] at this
        exact this
      · rw [if_neg hz2] at happ
        rw [happ] at hz
        exact absurd hz hz2
    · rw [if_neg hz, (b3 hz).1]; rfl
  · have hm' : mayS l = false := by simpa using hm
    rw [hm']; exact J1

end Go.Proofs.Ythgganjnodoldaa.Pure
