/- Bookings: what book.May, own, copied, found come to, as plain laws. No program in sight. -/
import Derived.Test.YtjhdjkanepdgiaaPb3
import Derived.Test.YtjhdjkanepdgiaaPb2
namespace Go.Proofs.Ytjhdjkanepdgiaa.Book
open Go Go.RowKit Go.Proofs.Ytjhdjkanepdgiaa.Pa Go.Proofs.Ytjhdjkanepdgiaa.Pb Go.Proofs.Ytjhdjkanepdgiaa.Ext Go.Proofs.YtjhdjkanepdgiaaW.PrintWords
set_option linter.unusedVariables false

theorem w64 {x : Int} (h0 : -9223372036854775808 ≤ x) (h1 : x < 9223372036854775808) : wrap64 x = x := by unfold wrap64; omega
theorem wi {i : Nat} (h : i < 1000000000000) : wrap64 ((i : Int) + 1) = ((i + 1 : Nat) : Int) := by unfold wrap64; omega
theorem wd {i : Nat} (h0 : 0 < i) (h : i < 1000000000000) : wrap64 ((i : Int) - 1) = ((i - 1 : Nat) : Int) := by unfold wrap64; omega
theorem rdB {l : List Booking} {i : Nat} (h : i < l.length) : rd_T25 l (i : Int) = l[i] := by simp [rd_T25, h]
theorem rdL {l : List Line} {i : Nat} (h : i < l.length) : rd_T33 l (i : Int) = l[i] := by simp [rd_T33, h]
def oneX (x : Booking) : Bool := oneB x.f0 x.f1 x.f2
/-- Bookings that may be. -/
def MayL (l : List Booking) : Prop := (∀ x ∈ l, oneX x = true) ∧ l.Pairwise (fun a b => a.f0 < b.f0) ∧ l.length ≤ 8
instance (l : List Booking) : Decidable (MayL l) := by unfold MayL; infer_instance
def mayB (l : List Booking) : Bool := decide (MayL l)
theorem mayB_iff {l : List Booking} : mayB l = true ↔ MayL l := by simp [mayB]
def stepB (l : List Booking) (i : Nat) : Bool := oneX (rd_T25 l i) && (decide (i = 0) || decide ((rd_T25 l ((i - 1 : Nat) : Int)).f0 < (rd_T25 l i).f0))
theorem may_iff {l : List Booking} : MayL l ↔ (∀ i, i < l.length → stepB l i = true) ∧ l.length ≤ 8 := by
  constructor
  · rintro ⟨h1, h2, h3⟩
    refine ⟨fun i hi => ?_, h3⟩
    unfold stepB
    rw [rdB hi, h1 _ (List.getElem_mem hi), Bool.true_and]
    by_cases h0 : i = 0
    · rw [decide_eq_true h0, Bool.true_or]
    · rw [rdB (show i - 1 < l.length by omega), decide_eq_true (List.pairwise_iff_getElem.1 h2 (i - 1) i (by omega) hi (by omega)), Bool.or_true]
  · rintro ⟨h, h3⟩
    have hs : ∀ i (hi : i < l.length), oneX l[i] = true ∧ ∀ h0 : 0 < i, (l[i - 1]'(by omega)).f0 < l[i].f0 := fun i hi => by
      have := h i hi
      unfold stepB at this
      rw [rdB hi] at this
      simp only [Bool.and_eq_true, Bool.or_eq_true, decide_eq_true_eq] at this
      refine ⟨this.1, fun h0 => ?_⟩
      rcases this.2 with h1 | h1
      · omega
      · rwa [rdB (show i - 1 < l.length by omega)] at h1
    refine ⟨fun s hm => ?_, List.pairwise_iff_getElem.2 (fun i j hi hj hij => ?_), h3⟩
    · obtain ⟨i, hi, rfl⟩ := List.getElem_of_mem hm
      exact (hs i hi).1
    · have : ∀ d i (hi : i < l.length) (hd : i + d + 1 < l.length), l[i].f0 < l[i + d + 1].f0 := by
        intro d
        induction d with
        | zero => intro i hi hd; exact (hs (i + 1) hd).2 (by omega)
        | succ d ih =>
          intro i hi hd
          have h1 := ih i hi (by omega)
          have h2 := (hs (i + (d + 1) + 1) hd).2 (by omega)
          have e : (l[i + (d + 1) + 1 - 1]'(by omega)) = l[i + d + 1] := rfl
          rw [e] at h2
          omega
      obtain ⟨d, rfl⟩ : ∃ d, j = i + d + 1 := ⟨j - i - 1, by omega⟩
      exact this d i hi hj
theorem mayB_range (l : List Booking) : mayB l = ((List.range' 0 l.length).all (stepB l) && decide (l.length ≤ 8)) := by
  unfold mayB
  rw [Bool.eq_iff_iff, decide_eq_true_eq, may_iff, Bool.and_eq_true, List.all_eq_true, decide_eq_true_eq]
  constructor
  · rintro ⟨h, h8⟩
    exact ⟨fun i hi => by have := List.mem_range'_1.1 hi; exact h i (by omega), h8⟩
  · rintro ⟨h, h8⟩
    exact ⟨fun i hi => h i (List.mem_range'_1.2 (by omega)), h8⟩
theorem may_l {l : List Booking} (hl : l.length ≤ 999999999999) (d : Nat) : ∀ (k i : Nat), i + d = l.length → d < k →
    book_May.l0 k l l (l.length : Int) i = some ((List.range' i d).all (stepB l) && decide (l.length ≤ 8)) := by
  induction d with
  | zero =>
    intro k i h hk
    obtain ⟨k, rfl⟩ : ∃ m, k = m + 1 := ⟨k - 1, by omega⟩
    simp only [book_May.l0]
    rw [if_neg (by omega)]
    show some _ = some (true && _)
    rw [Bool.true_and]
    congr 1
    exact decide_eq_decide.2 (by omega)
  | succ d ih =>
    intro k i h hk
    obtain ⟨k, rfl⟩ : ∃ m, k = m + 1 := ⟨k - 1, by omega⟩
    rw [List.range'_succ, List.all_cons]
    simp only [book_May.l0]
    rw [if_pos (by omega), if_pos (by omega), if_pos (by omega)]
    have hone : book_one.f (rd_T25 l i).f0 (rd_T25 l i).f1 (rd_T25 l i).f2 = some (oneX (rd_T25 l i)) := rfl
    rw [hone]
    simp only [Option.bind_some]
    have hst : stepB l i = (oneX (rd_T25 l i) && (decide (i = 0) || decide ((rd_T25 l ((i - 1 : Nat) : Int)).f0 < (rd_T25 l i).f0))) := rfl
    have hrec := ih k (i + 1) (by omega) (by omega)
    rw [wi (by omega), hrec, hst]
    cases h1 : oneX (rd_T25 l i) with
    | false => simp
    | true =>
      rw [if_pos rfl, Bool.true_and]
      by_cases h5 : (i : Int) > 0
      · rw [if_pos h5, wd (by omega) (by omega), if_pos (by omega), if_pos (by omega)]
        rw [decide_eq_false (by omega : ¬ i = 0), Bool.false_or]
        by_cases h6 : (rd_T25 l i).f0 ≤ (rd_T25 l ((i - 1 : Nat) : Int)).f0
        · rw [if_pos h6, decide_eq_false (by omega : ¬ (rd_T25 l ((i - 1 : Nat) : Int)).f0 < (rd_T25 l i).f0)]; rfl
        · rw [if_neg h6, decide_eq_true (by omega : (rd_T25 l ((i - 1 : Nat) : Int)).f0 < (rd_T25 l i).f0), Bool.true_and]
      · rw [if_neg h5, decide_eq_true (by omega : i = 0), Bool.true_or, Bool.true_and]
theorem may_f {k : Nat} {l : List Booking} (hl : l.length ≤ 999999999999) (hk : l.length < k) : book_May.f k l = some (mayB l) := by
  unfold book_May.f
  rw [mayB_range]
  exact may_l hl l.length k 0 (by omega) hk
theorem own_f (x : Booking) (h : x.f2.length ≤ 1000000) : book_own.f x.f0 x.f1 x.f2 = some (x.f0, x.f1, x.f2) := by
  unfold book_own.f slices_Clone.f
  rw [if_pos h]; rfl
theorem copied_l {l : List Booking} (hl : l.length ≤ 999999999) (hs : ∀ x ∈ l, x.f2.length ≤ 1000000) (d : Nat) : ∀ (k i : Nat), i + d = l.length → d < k →
    book_copied.l0 k (l.take i) l (l.length : Int) i = some l := by
  induction d with
  | zero =>
    intro k i h hk
    obtain ⟨k, rfl⟩ : ∃ m, k = m + 1 := ⟨k - 1, by omega⟩
    simp only [book_copied.l0]
    rw [if_neg (by omega), List.take_of_length_le (by omega)]
  | succ d ih =>
    intro k i h hk
    obtain ⟨k, rfl⟩ : ∃ m, k = m + 1 := ⟨k - 1, by omega⟩
    have hi : i < l.length := by omega
    simp only [book_copied.l0]
    rw [if_pos (by omega), if_pos (by omega), if_pos (by omega), rdB hi, own_f _ (hs _ (List.getElem_mem hi))]
    simp only [Option.bind_some]
    rw [if_pos (by rw [List.length_take]; omega), wi (by omega)]
    have := ih k (i + 1) (by omega) (by omega)
    rw [List.take_succ_eq_append_getElem hi] at this
    exact this
theorem copied_f {k : Nat} {l : List Booking} (hl : l.length ≤ 999999999) (hs : ∀ x ∈ l, x.f2.length ≤ 1000000) (hk : l.length < k) : book_copied.f k l = some l :=
  copied_l hl hs l.length k 0 (by omega) hk
theorem one_len {x : Booking} (h : oneX x = true) : 1 ≤ x.f2.length ∧ x.f2.length ≤ 4 := by
  unfold oneX oneB at h
  simp only [Bool.and_eq_true, decide_eq_true_eq] at h
  omega
theorem MayL.len {l : List Booking} (h : MayL l) : ∀ x ∈ l, x.f2.length ≤ 1000000 := fun x hx => by have := one_len (h.1 x hx); omega
theorem idx_range (id : Int) (l : List Booking) : idxB id l = -1 ∨ ∃ i : Nat, idxB id l = (i : Int) ∧ i < l.length ∧ l.findIdx (isB id) = i := by
  unfold idxB
  cases ha : l.any (isB id) with
  | false => exact .inl rfl
  | true =>
    refine .inr ⟨_, rfl, ?_, rfl⟩
    obtain ⟨x, hx, hp⟩ := List.any_eq_true.1 ha
    exact List.findIdx_lt_length_of_exists ⟨x, hx, hp⟩
/-- Bookings that may be turned, and where one stands. -/
def foundP (l : List Booking) (id : Int) : List Booking × Int × Int := if mayB l = true then (if idxB id l < 0 then ([], 0, 3) else (l, idxB id l, 0)) else ([], 0, 1)
theorem found_f {k : Nat} {l : List Booking} (id : Int) (hl : l.length ≤ 999999999) (hk : l.length < k) : book_found.f k l id = some (foundP l id) := by
  unfold book_found.f foundP
  have hat : book_at.f l id = some (idxB id l) := rfl
  rw [hat, may_f (by omega) hk]
  simp only [Option.bind_some]
  by_cases hm : mayB l = true
  · rw [if_pos hm, if_pos hm]
    by_cases hi : idxB id l < 0
    · rw [if_pos hi, if_pos hi]
    · rw [if_neg hi, if_neg hi, copied_f hl (mayB_iff.1 hm).len hk]; rfl
  · rw [if_neg hm, if_neg hm]
end Go.Proofs.Ytjhdjkanepdgiaa.Book
