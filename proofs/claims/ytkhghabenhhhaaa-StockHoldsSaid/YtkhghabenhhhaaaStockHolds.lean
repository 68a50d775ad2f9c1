/- Lines held together, and one behind the other (StockHoldsSaid): the plain law, and the walk. No conditions beside those that each theorem states. -/
import Derived.Test.YtkhghabenhhhaaaStockBack
import Derived.Test.YtkhghabenhhhaaaPureStockY
namespace Go.Proofs.Ytkhghabenhhhaaa.Stock
open Go Go.RowKit Go.Proofs.Ytkhghabenhhhaaa.Pa Go.Proofs.Ytkhghabenhhhaaa.Py Go.Proofs.YtkhghabenhhhaaaW.PrintWords
set_option linter.unusedVariables false

/-- Lines held each by itself, one behind the other. -/
def seqH : List Spot → List Line → List Spot × Int
  | b, [] => (b, 0)
  | b, x :: r => if (holdP b [x]).2 = 0 then seqH (holdP b [x]).1 r else (b, (holdP b [x]).2)
theorem holdP_one_of {l : List Spot} {x : Line} (hm : May l) (hp : pairB x.f0 x.f1 = true) (hq : 0 < x.f2) : holdP l [x] = turnedP (holdF x.f2) l x.f0 x.f1 x.f2 := by
  unfold holdP
  have h1 : ([x] : List Line).any noPair = false := by simp [noPair, hp]
  have h2 : ([x] : List Line).any noQty = false := by simp [noQty]; omega
  rw [if_pos (mayB_iff.2 hm), h1, h2, if_neg (by simp), if_neg (by simp)]
  unfold holdL
  by_cases h3 : (turnedP (holdF x.f2) l x.f0 x.f1 x.f2).2 = 0
  · rw [if_pos h3]; unfold holdL; exact Prod.ext rfl h3.symm
  · rw [if_neg h3]
    have hg := (turned_good (holdF_turns hq) (l := l) · x.f0 x.f1 x.f2)
    unfold turnedP at h3 ⊢
    by_cases c1 : knownP l x.f0 x.f1 = 0
    · rw [if_pos c1] at h3 ⊢
      by_cases c2 : x.f2 ≤ 0
      · rw [if_pos c2]
      · rw [if_neg c2] at h3 ⊢
        by_cases c3 : (holdF x.f2 (getS l x.f0 x.f1)).1 = 0
        · rw [if_pos c3] at h3; exact absurd rfl h3
        · rw [if_neg c3]
    · rw [if_neg c1]
theorem seq_fine : ∀ (m : List Line) {l : List Spot}, (seqH l m).2 = 0 → ∀ x ∈ m, pairB x.f0 x.f1 = true ∧ 0 < x.f2
  | [], l, h => fun x hx => by cases hx
  | y :: r, l, h => fun x hx => by
    unfold seqH at h
    by_cases h1 : (holdP l [y]).2 = 0
    · rw [if_pos h1] at h
      rcases List.mem_cons.1 hx with e | hx'
      · subst e
        have := turned_ok (holdP_one h1).1
        exact ⟨this.2.1, this.2.2.1⟩
      · exact seq_fine r h x hx'
    · rw [if_neg h1] at h; exact absurd h h1
theorem seq_eq : ∀ (m : List Line) {l : List Spot}, May l → Lim l → (∀ x ∈ m, pairB x.f0 x.f1 = true ∧ 0 < x.f2) → ((seqH l m).2 = 0 → holdL l m = seqH l m) ∧ ((seqH l m).2 ≠ 0 → (holdL l m).2 ≠ 0)
  | [], l, hm, hl, hf => ⟨fun _ => rfl, fun h => absurd rfl h⟩
  | y :: r, l, hm, hl, hf => by
    have hy := hf y (List.mem_cons_self ..)
    unfold seqH holdL
    rw [holdP_one_of hm hy.1 hy.2]
    have hg := hold_good hl y.f0 y.f1 y.f2
    by_cases h : (turnedP (holdF y.f2) l y.f0 y.f1 y.f2).2 = 0
    · rw [if_pos h, if_pos h]
      exact seq_eq r (hg.1 h) hg.2.2 (fun x hx => hf x (List.mem_cons_of_mem _ hx))
    · rw [if_neg h, if_neg h]
      exact ⟨fun h' => absurd h' h, fun _ => h⟩
theorem holds_eq {l : List Spot} {m : List Line} (hm : May l) (hl : Lim l) (h0 : m.length ≠ 0) (h4 : m.length ≤ 4) : ((holdP l m).2 = 0 → (seqH l m).2 = 0 ∧ holdP l m = seqH l m) ∧ ((holdP l m).2 ≠ 0 → (seqH l m).2 ≠ 0) := by
  by_cases hs : (seqH l m).2 = 0
  · have hf := seq_fine m hs
    have he := (seq_eq m hm hl hf).1 hs
    have h1 : m.any noPair = false := List.any_eq_false.2 (fun x hx => by unfold noPair; rw [(hf x hx).1]; simp)
    have h2 : m.any noQty = false := List.any_eq_false.2 (fun x hx => by have := (hf x hx).2; simp [noQty]; omega)
    have hh : holdP l m = seqH l m := by
      unfold holdP
      rw [if_pos (mayB_iff.2 hm), h1, h2, if_neg (by simp), if_neg (fun h => by rcases h with h | h | h; (· omega); (· omega); (· cases h)), he]
    exact ⟨fun _ => ⟨hs, hh⟩, fun h => absurd (by rw [hh]; exact hs) h⟩
  · refine ⟨fun h => ?_, fun _ => hs⟩
    exfalso
    unfold holdP at h
    rw [if_pos (mayB_iff.2 hm)] at h
    by_cases h1 : m.any noPair = true
    · rw [if_pos h1] at h; exact absurd h (show ¬ ((3 : Int) = 0) by decide)
    rw [if_neg h1] at h
    by_cases h2 : m.length = 0 ∨ 4 < m.length ∨ m.any noQty = true
    · rw [if_pos h2] at h; exact absurd h (show ¬ ((1 : Int) = 0) by decide)
    rw [if_neg h2] at h
    refine (seq_eq m hm hl (fun x hx => ?_)).2 hs h
    have a1 : noPair x = false := by
      cases hx1 : noPair x with
      | false => rfl
      | true => exact absurd (List.any_eq_true.2 ⟨x, hx, hx1⟩) h1
    have a2 : noQty x = false := by
      cases hx2 : noQty x with
      | false => rfl
      | true => exact absurd (.inr (.inr (List.any_eq_true.2 ⟨x, hx, hx2⟩))) h2
    unfold noPair at a1
    unfold noQty at a2
    exact ⟨by simpa using a1, by simpa using a2⟩
end Go.Proofs.Ytkhghabenhhhaaa.Stock
