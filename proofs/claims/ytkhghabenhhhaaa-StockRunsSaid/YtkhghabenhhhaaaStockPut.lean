/- Stocks with another spot: plain laws. No program in sight. -/
import Derived.Test.YtkhghabenhhhaaaStockPlain
namespace Go.Proofs.Ytkhghabenhhhaaa.Stock
open Go.RowKit Go.Proofs.Ytkhghabenhhhaaa.Pa Go.Proofs.YtkhghabenhhhaaaW.PrintWords
set_option linter.unusedVariables false

/-- A spot that may come to be: none, or one that may be. -/
def fineS (s : Spot) : Prop := pairB s.f0 s.f1 = true ∧ 0 ≤ s.f3 ∧ s.f3 ≤ s.f2
theorem fineS_ok {s : Spot} (h : fineS s) (hz : s.f2 ≠ 0) : okS s = true := okS_iff.2 ⟨pairB_iff.1 h.1, by have := h.2; omega, h.2⟩
theorem fineS_key {s : Spot} (h : fineS s) : 0 ≤ s.f1 ∧ s.f1 < 4 := by have := pairB_iff.1 h.1; omega
theorem okS_key {s : Spot} (h : okS s = true) : 0 ≤ s.f1 ∧ s.f1 < 4 := by have := (okS_iff.1 h).1; omega
theorem putS_mem {l : List Spot} {s x : Spot} : x ∈ putS l s ↔ (x ∈ l ∧ ky x ≠ ky s) ∨ (s.f2 ≠ 0 ∧ x = s) := by
  unfold putS
  simp only [List.mem_append, List.mem_filter, decide_eq_true_eq]
  by_cases hz : s.f2 = 0
  · rw [if_pos hz]
    simp only [List.not_mem_nil, false_or]
    constructor
    · rintro (h | h)
      · exact .inl ⟨h.1, by omega⟩
      · exact .inl ⟨h.1, by omega⟩
    · rintro (h | h)
      · rcases Int.lt_or_gt_of_ne h.2 with h1 | h1
        · exact .inl ⟨h.1, h1⟩
        · exact .inr ⟨h.1, h1⟩
      · exact absurd hz h.1
  · rw [if_neg hz]
    simp only [List.mem_singleton]
    constructor
    · rintro (h | h | h)
      · exact .inl ⟨h.1, by omega⟩
      · exact .inr ⟨hz, h⟩
      · exact .inl ⟨h.1, by omega⟩
    · rintro (h | h)
      · rcases Int.lt_or_gt_of_ne h.2 with h1 | h1
        · exact .inl ⟨h.1, h1⟩
        · exact .inr (.inr ⟨h.1, h1⟩)
      · exact .inr (.inl h.2)
theorem May.put {l : List Spot} {s : Spot} (h : May l) (hs : fineS s) : May (putS l s) := by
  refine ⟨fun x hx => ?_, ?_⟩
  · rcases putS_mem.1 hx with h1 | h1
    · exact h.1 x h1.1
    · rw [h1.2]; exact fineS_ok hs h1.1
  · unfold putS
    refine List.pairwise_append.2 ⟨h.2.filter _, List.pairwise_append.2 ⟨by split <;> simp, h.2.filter _, fun a ha b hb => ?_⟩, fun a ha b hb => ?_⟩
    · have h1 := (List.mem_filter.1 hb).2
      split at ha
      · simp at ha
      · simp only [List.mem_singleton] at ha
        subst ha
        simpa using h1
    · have h1 := (List.mem_filter.1 ha).2
      simp only [decide_eq_true_eq] at h1
      rcases List.mem_append.1 hb with h2 | h2
      · split at h2
        · simp at h2
        · simp only [List.mem_singleton] at h2
          subst h2
          exact h1
      · have h3 := (List.mem_filter.1 h2).2
        simp only [decide_eq_true_eq] at h3
        omega
/-- What is there, pair by pair. -/
theorem getS_of {l : List Spot} (h : May l) {sku loc : Int} {x : Spot} (hx : x ∈ l) (h0 : x.f0 = sku) (h1 : x.f1 = loc) : getS l sku loc = x := by
  subst h0 h1; exact getS_mem h hx
theorem getS_put {l : List Spot} {s : Spot} (h : May l) (hs : fineS s) (sku loc : Int) : getS (putS l s) sku loc = if sku = s.f0 ∧ loc = s.f1 then (if s.f2 = 0 then noS sku loc else s) else getS l sku loc := by
  by_cases hk : sku = s.f0 ∧ loc = s.f1
  · rw [if_pos hk]
    obtain ⟨rfl, rfl⟩ := hk
    by_cases hz : s.f2 = 0
    · rw [if_pos hz]
      refine getS_none (fun x hx hk => ?_)
      rcases putS_mem.1 hx with h1 | h1
      · exact h1.2 (by unfold ky; rw [hk.1, hk.2])
      · exact h1.1 hz
    · rw [if_neg hz]
      exact getS_mem (h.put hs) (putS_mem.2 (.inr ⟨hz, rfl⟩))
  · rw [if_neg hk]
    rcases getS_cases l sku loc with g | g
    · refine getS_of (h.put hs) (putS_mem.2 (.inl ⟨g.1, fun hky => hk ?_⟩)) g.2.1 g.2.2
      have := ky_inj (okS_key (h.1 _ g.1)) (fineS_key hs) hky
      exact ⟨by rw [← g.2.1]; exact this.1, by rw [← g.2.2]; exact this.2⟩
    · rw [g.1]
      refine getS_none (fun x hx hkx => ?_)
      rcases putS_mem.1 hx with h1 | h1
      · exact g.2 x h1.1 hkx
      · rw [h1.2] at hkx; exact hk ⟨hkx.1.symm, hkx.2.symm⟩
/-- Two stocks with the same spots are the same. -/
theorem pairwise_ext : ∀ {a b : List Spot}, a.Pairwise (fun x y => ky x < ky y) → b.Pairwise (fun x y => ky x < ky y) → (∀ x, x ∈ a ↔ x ∈ b) → a = b
  | [], [], _, _, _ => rfl
  | [], y :: b, _, _, h => by have := (h y).2 (by simp); simp at this
  | x :: a, [], _, _, h => by have := (h x).1 (by simp); simp at this
  | x :: a, y :: b, ha, hb, h => by
    have h1 := List.pairwise_cons.1 ha
    have h2 := List.pairwise_cons.1 hb
    have hxy : x = y := by
      have hx := (h x).1 (by simp)
      have hy := (h y).2 (by simp)
      rcases List.mem_cons.1 hx with e | e
      · exact e
      · rcases List.mem_cons.1 hy with e2 | e2
        · exact e2.symm
        · have := h1.1 y e2
          have := h2.1 x e
          omega
    subst hxy
    congr 1
    refine pairwise_ext h1.2 h2.2 (fun z => ⟨fun hz => ?_, fun hz => ?_⟩)
    · rcases List.mem_cons.1 ((h z).1 (by simp [hz])) with e | e
      · subst e; have := h1.1 z hz; omega
      · exact e
    · rcases List.mem_cons.1 ((h z).2 (by simp [hz])) with e | e
      · subst e; have := h2.1 z hz; omega
      · exact e
theorem May.ext {a b : List Spot} (ha : May a) (hb : May b) (h : ∀ sku loc, pairB sku loc = true → getS a sku loc = getS b sku loc) : a = b := by
  have key : ∀ {a b : List Spot}, May a → May b → (∀ sku loc, pairB sku loc = true → getS a sku loc = getS b sku loc) → ∀ x, x ∈ a → x ∈ b := by
    intro a b ha hb h x hx
    have hok := ha.1 x hx
    have hp : pairB x.f0 x.f1 = true := pairB_iff.2 (okS_iff.1 hok).1
    have h1 := h _ _ hp
    rw [getS_mem ha hx] at h1
    rcases getS_cases b x.f0 x.f1 with g | g
    · rw [h1]; exact g.1
    · rw [g.1] at h1
      have := (okS_iff.1 hok).2.1
      rw [h1] at this
      simp [noS] at this
  exact pairwise_ext ha.2 hb.2 (fun x => ⟨key ha hb h x, key hb ha (fun s l hp => (h s l hp).symm) x⟩)
/-- With the spot that is there nothing turns. -/
theorem putS_ext {l m : List Spot} {s : Spot} (h : May l) (hm : May m) (hs : fineS s) (h1 : getS m s.f0 s.f1 = if s.f2 = 0 then noS s.f0 s.f1 else s) (h2 : ∀ sku loc, pairB sku loc = true → ¬ (sku = s.f0 ∧ loc = s.f1) → getS m sku loc = getS l sku loc) : m = putS l s := by
  refine hm.ext (h.put hs) (fun sku loc hp => ?_)
  rw [getS_put h hs]
  by_cases hk : sku = s.f0 ∧ loc = s.f1
  · rw [if_pos hk]
    obtain ⟨rfl, rfl⟩ := hk
    exact h1
  · rw [if_neg hk]
    exact h2 _ _ hp hk
theorem May.length {l : List Spot} (h : May l) : l.length ≤ 64 := by
  have : ∀ (l : List Spot) (n : Nat), (∀ s ∈ l, okS s = true ∧ (n : Int) ≤ ky s) → l.Pairwise (fun a b => ky a < ky b) → n ≤ 64 → l.length + n ≤ 64 := by
    intro l
    induction l with
    | nil => intro n _ _ h; simpa using h
    | cons x r ih =>
      intro n h1 h2 h3
      have hx := h1 x (by simp)
      have hk := (okS_iff.1 hx.1).1
      have hp := List.pairwise_cons.1 h2
      have hky : ky x < 64 := by unfold ky; omega
      have := ih (n + 1) (fun s hs => ⟨(h1 s (by simp [hs])).1, by have := hp.1 s hs; have := hx.2; omega⟩) hp.2 (by omega)
      simp only [List.length_cons]
      omega
  have := this l 0 (fun s hs => ⟨h.1 s hs, by have := (okS_iff.1 (h.1 s hs)).1; unfold ky; omega⟩) h.2 (by omega)
  omega
end Go.Proofs.Ytkhghabenhhhaaa.Stock
