/- What is added changes the sum of its own pair alone: the law over numbers and lists. At most 100 entries, as the statement itself bounds them. -/
import Derived.Test.YthgganjnodoldaaPx2
import Derived.Test.YthgganjnodoldaaPureTrail
namespace Go.Proofs.Ythgganjnodoldaa.Pure
open Go.RowKit Go.Proofs.Ythgganjnodoldaa.Pa Go.Proofs.Ythgganjnodoldaa.Ext Go.Proofs.Ythgganjnodoldaa.Px Go.Proofs.YthgganjnodoldaaW.PrintWords Go.Proofs.YthgganjnodoldaaW.PrintLast


theorem sumN_snoc {s p : Int} (x : S35) : ∀ (l : List S35) (n : Int), OkL l → 0 ≤ n → n ≤ 9223372036854775807 →
    sumN s p n (l ++ [x]) = if (sumN s p n l).2 = 0 then (if ofPair s p x = true then (if (stepN (sumN s p n l).1 x).2 = 0 then ((stepN (sumN s p n l).1 x).1, 0) else (0, (stepN (sumN s p n l).1 x).2)) else sumN s p n l) else sumN s p n l
  | [], n, _, _, _ => by
    by_cases hp : ofPair s p x = true <;> by_cases hz : (stepN n x).2 = 0 <;> simp [sumN, hp, hz]
  | y :: l, n, h, h0, h1 => by
    obtain ⟨hE, hq⟩ := h y List.mem_cons_self
    have hr : OkL l := fun z hz => h z (List.mem_cons_of_mem _ hz)
    simp only [List.cons_append, sumN]
    have hsb := stepN_b hE hq h0 h1
    by_cases hp : ofPair s p y = true
    · simp only [hp, if_true]
      by_cases hz : (stepN n y).2 = 0
      · simp only [hz, if_true]
        exact sumN_snoc x l _ hr hsb.1 hsb.2
      · simp only [hz, if_false]
    · simp only [hp, Bool.false_eq_true, if_false]
      exact sumN_snoc x l n hr h0 h1
theorem sumN_b {s p : Int} : ∀ (l : List S35) (n : Int), OkL l → 0 ≤ n → n ≤ 9223372036854775807 → 0 ≤ (sumN s p n l).1 ∧ (sumN s p n l).1 ≤ 9223372036854775807 ∧ ((sumN s p n l).2 ≠ 0 → (sumN s p n l).1 = 0 ∧ ((sumN s p n l).2 = 30 ∨ (sumN s p n l).2 = 31))
  | [], n, _, h0, h1 => ⟨h0, h1, fun h => absurd rfl h⟩
  | y :: l, n, h, h0, h1 => by
    obtain ⟨hE, hq⟩ := h y List.mem_cons_self
    have hr : OkL l := fun z hz => h z (List.mem_cons_of_mem _ hz)
    have hsb := stepN_b hE hq h0 h1
    simp only [sumN]
    by_cases hp : ofPair s p y = true
    · simp only [hp, if_true]
      by_cases hz : (stepN n y).2 = 0
      · simp only [hz, if_true]
        exact sumN_b l _ hr hsb.1 hsb.2
      · simp only [hz, if_false]
        refine ⟨by decide, by decide, fun _ => ⟨trivial, ?_⟩⟩
        rcases stepN_cases hE hq h0 h1 with ⟨_, _, e⟩ | ⟨_, _, e⟩ | ⟨_, _, e⟩
        · rw [e]; exact .inr rfl
        · rw [e]; exact .inl rfl
        · rw [e] at hz; exact absurd rfl hz
    · simp only [hp, Bool.false_eq_true, if_false]
      exact sumN_b l n hr h0 h1

theorem TrailPairs : quartermasterlaw19_TrailPairs.Pure := by
  intro l x0 x1 x2 x3 s p hl hql hx0 hx1 hx2 hx3 _ _
  obtain ⟨k, hk⟩ : ∃ k : Nat, 5000 ≤ k := ⟨5000, Nat.le_refl _⟩
  refine ⟨k + 2, ?_⟩
  unfold quartermasterlaw19_TrailPairs.f
  rw [awake_f (by omega)]
  simp only [Option.bind_some, if_true]
  by_cases h1 : (l.length : Int) > 100
  · rw [decide_eq_true h1]; simp only [quartermasterlaw19_TrailPairs.j0, if_true]
  rw [decide_eq_false h1]
  simp only [quartermasterlaw19_TrailPairs.j0, Bool.false_eq_true, if_false]
  unfold trail_Add.f
  rw [if_pos (by simp)]
  simp only [Option.bind_some]
  obtain ⟨x, hx⟩ : ∃ x : S35, x = ⟨x0, x1, x2, x3⟩ := ⟨_, rfl⟩
  have e0 : x0 = x.f0 := by rw [hx]
  have e1 : x1 = x.f1 := by rw [hx]
  have e2 : x2 = x.f2 := by rw [hx]
  have e3 : x3 = x.f3 := by rw [hx]
  have hqx : qT35 x := by rw [hx]; exact ⟨hx0, hx1, hx2, hx3⟩
  rw [← hx]
  by_cases ha : (Ext.addS l [x]).2 = 0
  · rw [if_pos ha]
    obtain ⟨hm, ho, hs, hr⟩ : mayS l = true ∧ oddS x = false ∧ l.length + 1 ≤ 64 ∧ (Ext.addS l [x]).1 = l ++ [x] := by
      unfold Ext.addS at ha ⊢
      by_cases hm : mayS l = false
      · rw [if_pos hm] at ha; cases ha
      rw [if_neg hm] at ha ⊢
      by_cases ho : ([x] : List S35).any oddS = true
      · rw [if_pos ho] at ha; cases ha
      rw [if_neg ho] at ha ⊢
      by_cases hs : l.length + ([x] : List S35).length > 64
      · rw [if_pos hs] at ha; cases ha
      rw [if_neg hs]
      exact ⟨by simpa using hm, by simpa using ho, by simp at hs; omega, rfl⟩
    obtain ⟨_, hol⟩ := okE_all hm
    have hE := okE_of ho
    have hq := wfb hqx.2.2.2
    have hOk := okL_of hol hql
    have hm2 : mayS (l ++ [x]) = true := by
      unfold mayS
      rw [List.any_append]
      have hal : l.any oddS = false := by rw [List.any_eq_false]; intro y hy; simp [hol y hy]
      rw [hal]
      simp [ho]; omega
    have hq2 : ∀ y ∈ l ++ [x], qT35 y := by
      intro y hy
      rcases List.mem_append.1 hy with h | h
      · exact hql y h
      · rw [List.mem_singleton.1 h]; exact hqx
    rw [hr, sum_f hql (by omega), sum_f hq2 (by omega)]
    simp only [Option.bind_some, hm, hm2, if_true]
    rw [sumN_snoc x l 0 hOk (by omega) (by omega)]
    obtain ⟨b0, b1, b2⟩ := sumN_b (s := s) (p := p) l 0 hOk (by omega) (by omega)
    generalize sumN s p 0 l = t at b0 b1 b2 ⊢
    have J : ∀ b : Bool, ofPair s p x = !b → ∀ r, r = (if t.2 = 0 then (if ofPair s p x = true then (if (stepN t.1 x).2 = 0 then ((stepN t.1 x).1, (0 : Int)) else (0, (stepN t.1 x).2)) else t) else t) →
        quartermasterlaw19_TrailPairs.j1 (k + 1) t.1 t.2 r.1 r.2 b x0 x1 x2 x3 = some true := by
      intro b hb r hr2
      cases b with
      | true =>
        simp only [quartermasterlaw19_TrailPairs.j1, if_true]
        rw [hb] at hr2
        have : r = t := by
          rw [hr2]
          by_cases hz : t.2 = 0
          · simp [hz]
          · simp [hz]
        rw [this]; simp
      | false =>
        simp only [quartermasterlaw19_TrailPairs.j1, Bool.false_eq_true, if_false]
        rw [hb] at hr2
        simp only [Bool.not_false, if_true] at hr2
        by_cases hz : t.2 = 0
        · rw [if_pos hz] at hr2 ⊢
          rcases stepN_cases hE hq b0 b1 with ⟨_, _, e⟩ | ⟨_, _, e⟩ | ⟨c0, c1, e⟩
          · rw [e, if_neg (by decide)] at hr2
            rw [hr2, if_neg (by decide), if_neg (by decide)]; rfl
          · rw [e, if_neg (by decide)] at hr2
            rw [hr2, if_neg (by decide), if_pos rfl]
          · rw [e, if_pos rfl] at hr2
            rw [hr2, if_pos rfl, e0, e3]
            have hk0 := hE.k0
            have hq3 := hE.q
            by_cases e4 : x.f0 = 4
            · have hs2 : byS x = -x.f3 := by unfold byS; rw [if_pos (.inl e4)]
              have hw : wrap64 (t.1 - x.f3) = t.1 + byS x := by rw [hs2] at c0 c1 ⊢; unfold wrap64; omega
              rw [if_pos e4, hw]; simp
            · rw [if_neg e4]
              by_cases e5 : x.f0 = 5
              · have hs2 : byS x = -x.f3 := by unfold byS; rw [if_pos (.inr e5)]
                have hw : wrap64 (t.1 - x.f3) = t.1 + byS x := by rw [hs2] at c0 c1 ⊢; unfold wrap64; omega
                rw [if_pos e5, hw]; simp
              · have hs2 : byS x = x.f3 := by unfold byS; rw [if_neg (by omega)]
                have hw : wrap64 (t.1 + x.f3) = t.1 + byS x := by rw [hs2] at c0 c1 ⊢; unfold wrap64; omega
                rw [if_neg e5, hw]; simp
        · rw [if_neg hz] at hr2 ⊢
          rw [hr2]; simp
    by_cases hs2 : x1 = s
    · rw [if_pos hs2]
      exact J _ (by unfold ofPair; rw [← e1, ← e2, decide_eq_true hs2]; cases hb : decide (x2 = p) <;> simp at hb <;> simp [hb]) _ rfl
    · rw [if_neg hs2]
      exact J _ (by unfold ofPair; rw [← e1, decide_eq_false hs2]; rfl) _ rfl
  · rw [if_neg ha]
    have : (Ext.addS l [x]).1 = [] := by
      unfold Ext.addS at ha ⊢
      split
      · rfl
      split
      · rfl
      split
      · rfl
      · rename_i h1 h2 h3
        rw [if_neg h1, if_neg h2, if_neg h3] at ha
        exact absurd rfl ha
    rw [this]; rfl

end Go.Proofs.Ythgganjnodoldaa.Pure
