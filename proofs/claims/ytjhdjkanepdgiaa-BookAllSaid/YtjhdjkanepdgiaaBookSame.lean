/- What the document's Few and Same come to for bookings, as plain laws. No conditions beside those that each lemma states. -/
import Derived.Test.YtjhdjkanepdgiaaBookKeeps
namespace Go.Proofs.Ytjhdjkanepdgiaa.Ask
open Go Go.RowKit Go.Proofs.Ytjhdjkanepdgiaa.Pa Go.Proofs.Ytjhdjkanepdgiaa.Pb Go.Proofs.YtjhdjkanepdgiaaW.PrintWords Go.Proofs.YtjhdjkanepdgiaaW.PrintLast Go.Proofs.Ytjhdjkanepdgiaa.Book Go.Proofs.Ytjhdjkanepdgiaa.Ext
set_option linter.unusedVariables false

def fewB (l : List Booking) (m : Int) : Bool := decide ((l.length : Int) ≤ m) && l.all (fun x => decide (x.f2.length ≤ 20))
theorem few_l {l : List Booking} (hl : l.length ≤ 999999999) (d : Nat) : ∀ (k i : Nat), i + d = l.length → d < k → quartermasterref18_Few.l0 k l (i : Int) = some ((l.drop i).all (fun x => decide (x.f2.length ≤ 20))) := by
  induction d with
  | zero =>
    intro k i h hk
    obtain ⟨m, rfl⟩ : ∃ m, k = m + 1 := ⟨k - 1, by omega⟩
    unfold quartermasterref18_Few.l0
    rw [if_neg (by omega), List.drop_of_length_le (by omega)]; rfl
  | succ d ih =>
    intro k i h hk
    obtain ⟨m, rfl⟩ : ∃ m, k = m + 1 := ⟨k - 1, by omega⟩
    have hi : i < l.length := by omega
    unfold quartermasterref18_Few.l0
    rw [if_pos (by omega), if_pos (by omega), rdB hi, wi (by omega), List.drop_eq_getElem_cons hi, List.all_cons]
    by_cases h2 : (l[i].f2.length : Int) > 20
    · rw [if_pos h2, decide_eq_false (by omega)]; rfl
    · rw [if_neg h2, decide_eq_true (by omega), Bool.true_and]
      exact ih m (i + 1) (by omega) (by omega)
theorem few_f {l : List Booking} {k : Nat} {m : Int} (hm : m ≤ 999999999) (hk : l.length < k) : quartermasterref18_Few.f k l m = some (fewB l m) := by
  unfold quartermasterref18_Few.f fewB
  by_cases h : (l.length : Int) > m
  · rw [if_pos h, decide_eq_false (by omega)]; rfl
  · rw [if_neg h, decide_eq_true (by omega), Bool.true_and]
    exact few_l (by omega) l.length k 0 (by omega) hk
theorem few_lines {l : List Booking} {m : Int} (h : fewB l m = true) : ∀ x ∈ l, x.f2.length ≤ 20 := by
  unfold fewB at h; rw [Bool.and_eq_true, List.all_eq_true] at h; exact fun x hx => of_decide_eq_true (h.2 x hx)
theorem few_big {l : List Booking} {m : Int} {k : Nat} (h : (l.length : Int) > m) : quartermasterref18_Few.f k l m = some false := by
  unfold quartermasterref18_Few.f
  rw [if_pos h]

theorem lines_l {l : List Line} (hl : l.length ≤ 999999999) (d : Nat) : ∀ (k i : Nat), i + d = l.length → d < k → quartermasterref18_Lines.l0 k l l (i : Int) = some true := by
  induction d with
  | zero =>
    intro k i h hk
    obtain ⟨m, rfl⟩ : ∃ m, k = m + 1 := ⟨k - 1, by omega⟩
    unfold quartermasterref18_Lines.l0
    rw [if_neg (by omega)]
  | succ d ih =>
    intro k i h hk
    obtain ⟨m, rfl⟩ : ∃ m, k = m + 1 := ⟨k - 1, by omega⟩
    unfold quartermasterref18_Lines.l0
    rw [if_pos (by omega), if_pos (by omega), if_pos (by omega), wi (by omega), if_neg (by simp)]
    exact ih m (i + 1) (by omega) (by omega)
theorem lines_f {k : Nat} {l : List Line} (hl : l.length ≤ 999999999) (hk : l.length < k) : quartermasterref18_Lines.f k l l = some true := by
  unfold quartermasterref18_Lines.f
  rw [if_pos rfl]
  exact lines_l hl l.length k 0 (by omega) hk
theorem same_l {l : List Booking} (hl : l.length ≤ 999999999) (hs : ∀ x ∈ l, x.f2.length ≤ 20) (d : Nat) : ∀ (k i : Nat), i + d = l.length → d + 21 < k → quartermasterref18_Same.l0 k l l (i : Int) = some true := by
  induction d with
  | zero =>
    intro k i h hk
    obtain ⟨m, rfl⟩ : ∃ m, k = m + 1 := ⟨k - 1, by omega⟩
    unfold quartermasterref18_Same.l0
    rw [if_neg (by omega)]
  | succ d ih =>
    intro k i h hk
    obtain ⟨m, rfl⟩ : ∃ m, k = m + 1 := ⟨k - 1, by omega⟩
    have hi : i < l.length := by omega
    have h20 := hs l[i] (List.getElem_mem hi)
    unfold quartermasterref18_Same.l0
    rw [if_pos (by omega), if_pos (by omega), if_pos (by omega), rdB hi, lines_f (by omega) (by omega), Option.bind_some, if_pos rfl, if_pos rfl, if_pos rfl, wi (by omega)]
    exact ih m (i + 1) (by omega) (by omega)
theorem same_f {k : Nat} {l : List Booking} (hl : l.length ≤ 999999999) (hs : ∀ x ∈ l, x.f2.length ≤ 20) (hk : l.length + 21 < k) : quartermasterref18_Same.f k l l = some true := by
  unfold quartermasterref18_Same.f
  rw [if_pos rfl]
  exact same_l hl hs l.length k 0 (by omega) hk
theorem lim_of {l : List Booking} (hq : ∀ y ∈ l, qT25 y) (hl : l.length ≤ 999999999) : Lim l := ⟨hl, fun x hx y hy => by
  have h := ((hq x hx).2.2 y hy).2.2
  simp only [Lit.wf, Bool.and_eq_true, decide_eq_true_eq] at h
  have h2 : IntKind.i64.max = 9223372036854775807 := by decide
  rw [h2] at h
  omega⟩
end Go.Proofs.Ytjhdjkanepdgiaa.Ask
