/- StockDoes as a plain law. -/
import Derived.Test.YtkhghabenhhhaaaPureStockV
import Derived.Test.YtkhghabenhhhaaaPv3
namespace Go.Proofs.Ytkhghabenhhhaaa.Pure
open Go Go.RowKit Go.Proofs.Ytkhghabenhhhaaa.Pa Go.Proofs.Ytkhghabenhhhaaa.Pv Go.Proofs.Ytkhghabenhhhaaa.Ext Go.Proofs.Ytkhghabenhhhaaa.Stock Go.Proofs.YtkhghabenhhhaaaW.PrintWords Go.Proofs.YtkhghabenhhhaaaW.PrintLast
set_option linter.unusedVariables false

def pickS (sku loc : Int) (c s : S37) : S37 := if s.f0 = sku then (if s.f1 = loc then s else c) else c
theorem pick_take {l : List S37} {i : Nat} (hi : i < l.length) (sku loc : Int) (c : S37) : (l.take (i + 1)).foldl (pickS sku loc) c = pickS sku loc ((l.take i).foldl (pickS sku loc) c) l[i] := by
  rw [List.take_succ_eq_append_getElem hi, List.foldl_append]; rfl
theorem pick_cases (sku loc : Int) (l : List S37) : ∀ c, (l.foldl (pickS sku loc) c = c ∧ ∀ x ∈ l, ¬ (x.f0 = sku ∧ x.f1 = loc)) ∨ (l.foldl (pickS sku loc) c ∈ l ∧ (l.foldl (pickS sku loc) c).f0 = sku ∧ (l.foldl (pickS sku loc) c).f1 = loc) := by
  induction l with
  | nil => intro c; exact .inl ⟨rfl, by simp⟩
  | cons x l ih =>
    intro c
    rw [List.foldl_cons]
    have hp : (x.f0 = sku ∧ x.f1 = loc ∧ pickS sku loc c x = x) ∨ (¬ (x.f0 = sku ∧ x.f1 = loc) ∧ pickS sku loc c x = c) := by
      unfold pickS
      by_cases h1 : x.f0 = sku
      · by_cases h2 : x.f1 = loc
        · exact .inl ⟨h1, h2, by rw [if_pos h1, if_pos h2]⟩
        · exact .inr ⟨fun h => h2 h.2, by rw [if_pos h1, if_neg h2]⟩
      · exact .inr ⟨fun h => h1 h.1, by rw [if_neg h1]⟩
    rcases ih (pickS sku loc c x) with h | h
    · rcases hp with ⟨h1, h2, h3⟩ | ⟨h1, h3⟩
      · rw [h.1, h3]; exact .inr ⟨List.mem_cons_self, h1, h2⟩
      · rw [h.1, h3]
        refine .inl ⟨rfl, fun y hy => ?_⟩
        rcases List.mem_cons.1 hy with rfl | hy
        · exact h1
        · exact h.2 y hy
    · exact .inr ⟨List.mem_cons_of_mem _ h.1, h.2⟩
theorem pick_get {l : List S37} (h : May l) (sku loc : Int) : l.foldl (pickS sku loc) (noS sku loc) = getS l sku loc := by
  rcases pick_cases sku loc l (noS sku loc) with g | g
  · rw [g.1, getS_none g.2]
  · obtain ⟨g1, g2, g3⟩ := g
    have := getS_mem h g1
    rw [g2, g3] at this
    exact this.symm
theorem does_end {k : Nat} {l : List S37} (hl : Lim l) (hk : l.length < k) {sku loc e : Int} (hs : inI sku) (ho : inI loc) (i : Int) {x : S37} (hx : atP l sku loc = x) : quartermasterlaw17_StockDoes.j2 (k + 1) l sku loc e e true (mayB l) i false x.f0 x.f1 x.f2 x.f3 = some true := by
  have := hl.1
  rw [quartermasterlaw17_StockDoes.j2, if_neg (by simp), if_pos rfl, if_pos rfl, may_f (by omega) hk, at_f hl hs ho, hx]
  simp
theorem does_l {l : List S37} (hm : May l) (hl : Lim l) {sku loc e : Int} (hs : inI sku) (ho : inI loc) (d : Nat) : ∀ (k i : Nat) (c : S37), i + d = l.length → 2 * d + l.length + 2 < k → c = (l.take i).foldl (pickS sku loc) (noS sku loc) →
    quartermasterlaw17_StockDoes.l0 k l sku loc e e true true (i : Int) c.f0 c.f1 c.f2 c.f3 = some true := by
  have hlen := hm.length
  induction d with
  | zero =>
    intro k i c h hk hc
    obtain ⟨k, rfl⟩ : ∃ m, k = m + 1 + 1 := ⟨k - 2, by omega⟩
    rw [quartermasterlaw17_StockDoes.l0, if_neg (by omega)]
    have := does_end (k := k) hl (by omega) (e := e) hs ho (i : Int) (x := c) (by
      rw [hc, List.take_of_length_le (by omega), pick_get hm]
      exact if_pos (mayB_iff.2 hm))
    rw [mayB_iff.2 hm] at this
    exact this
  | succ d ih =>
    intro k i c h hk hc
    obtain ⟨k, rfl⟩ : ∃ m, k = m + 1 + 1 := ⟨k - 2, by omega⟩
    have hi : i < l.length := by omega
    have hw : wrap64 ((i : Int) + 1) = ((i + 1 : Nat) : Int) := wi (by omega)
    rw [quartermasterlaw17_StockDoes.l0, if_pos (by omega), quartermasterlaw17_StockDoes.j2, if_pos rfl, if_pos (by omega), if_pos (by omega), rd_getElem hi, hw]
    have hn := pick_take hi sku loc (noS sku loc)
    rw [← hc] at hn
    by_cases h1 : l[i].f0 = sku
    · rw [if_pos h1]
      by_cases h2 : l[i].f1 = loc
      · rw [if_pos h2]
        exact ih k (i + 1) l[i] (by omega) (by omega) (by rw [hn]; unfold pickS; rw [if_pos h1, if_pos h2])
      · rw [if_neg h2]
        exact ih k (i + 1) c (by omega) (by omega) (by rw [hn]; unfold pickS; rw [if_pos h1, if_neg h2])
    · rw [if_neg h1]
      exact ih k (i + 1) c (by omega) (by omega) (by rw [hn]; unfold pickS; rw [if_neg h1])
theorem StockDoes : quartermasterlaw17_StockDoes.Pure := by
  intro l a0 a1 a2 a3 a4 m sku loc hn hq w0 w1 w2 w3 w4 hmn hmq w5 w6
  obtain ⟨k, hk⟩ : ∃ k : Nat, k = 9999 := ⟨_, rfl⟩
  refine ⟨k + 1, ?_⟩
  have hup : ∀ x29 : Bool, x29 = true → quartermasterlaw17_StockDoes.j0 (k + 1) l sku loc true x29 a0 a1 a2 a3 a4 m = some true := fun x h => by
    subst h; rw [quartermasterlaw17_StockDoes.j0]; rw [if_pos rfl]
  unfold quartermasterlaw17_StockDoes.f
  rw [awake_f]
  simp only [Option.bind_some]
  rw [if_pos trivial]
  by_cases h1 : (l.length : Int) > 100
  · rw [if_pos h1]; exact hup _ rfl
  rw [if_neg h1]
  by_cases h2 : (m.length : Int) > 20
  · exact hup _ (by simpa using h2)
  have hl : Lim l := lim_of hq (by omega)
  rw [quartermasterlaw17_StockDoes.j0, if_neg (by simpa using h2), does_f hl (wfb w4) (limL_of hmq), did_f hl (wfb w4) (limL_of hmq)]
  simp only [Option.bind_some]
  have hdl : (doesP l a0 a1 a2 a3 a4 m).1.length ≤ 300 := by
    have hg := does_good hl a0 a1 a2 a3 a4 m
    by_cases h4 : (doesP l a0 a1 a2 a3 a4 m).2 = 0
    · have := (hg.1 h4).length; omega
    · rw [hg.2.1 h4]; simp
  rw [same_f (by omega) (by omega), rmay_f (by omega) (by omega)]
  simp only [Option.bind_some]
  by_cases h3 : mayB l = true
  · have hm := mayB_iff.1 h3
    rw [h3]
    exact does_l hm hl (wfb w5) (wfb w6) l.length k 0 (noS sku loc) (by omega) (by omega) rfl
  · have h3f : mayB l = false := by simpa using h3
    obtain ⟨k, rfl⟩ : ∃ m, k = m + 1 + 1 := ⟨k - 2, by omega⟩
    rw [quartermasterlaw17_StockDoes.l0, h3f]
    have := does_end (k := k) hl (by omega) (e := (doesP l a0 a1 a2 a3 a4 m).2) (wfb w5) (wfb w6) (0 : Int) (x := noS sku loc) (by unfold atP; rw [if_neg h3])
    rw [h3f] at this
    split
    · exact this
    · exact this
end Go.Proofs.Ytkhghabenhhhaaa.Pure
