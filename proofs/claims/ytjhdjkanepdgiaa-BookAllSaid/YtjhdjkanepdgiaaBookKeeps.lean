/- What is done to bookings keeps: they may be, the others stand. No conditions beside those that each lemma states. -/
import Derived.Test.YtjhdjkanepdgiaaBookExt3
namespace Go.Proofs.Ytjhdjkanepdgiaa.Book
open Go Go.RowKit Go.Proofs.Ytjhdjkanepdgiaa.Pa Go.Proofs.Ytjhdjkanepdgiaa.Pb Go.Proofs.YtjhdjkanepdgiaaW.PrintWords Go.Proofs.YtjhdjkanepdgiaaW.PrintLast
set_option linter.unusedVariables false

/-- What Find tells. -/
def findP (l : List Booking) (id : Int) : Int × Int × List Line × Bool :=
  if mayB l = true then (if idxB id l < 0 then (0, 0, [], false) else ((rd_T25 l (idxB id l)).f0, (rd_T25 l (idxB id l)).f1, (rd_T25 l (idxB id l)).f2, true)) else (0, 0, [], false)
theorem find_f {k : Nat} {l : List Booking} (id : Int) (hl : l.length ≤ 999999999) (hk : l.length < k) : book_Find.f k l id = some (findP l id) := by
  unfold book_Find.f findP Ext.book_at.f
  rw [Option.bind_some, may_f (by omega) hk, Option.bind_some]
  by_cases hm : mayB l = true
  · rw [if_pos hm, if_pos hm]
    rcases idx_range id l with h | ⟨i, h, hi, _⟩
    · rw [h, if_pos (by omega), if_pos (by omega)]
    · rw [h, if_neg (by omega), if_pos (by omega), if_pos (by omega), rdB hi, own_f _ ((mayB_iff.1 hm).len _ (List.getElem_mem hi)), if_neg (by omega)]; rfl
  · rw [if_neg hm, if_neg hm]
theorem ids_inj {l : List Booking} (h : MayL l) {x y : Booking} (hx : x ∈ l) (hy : y ∈ l) (he : x.f0 = y.f0) : x = y := by
  obtain ⟨i, hi, rfl⟩ := List.getElem_of_mem hx
  obtain ⟨j, hj, rfl⟩ := List.getElem_of_mem hy
  have hp := List.pairwise_iff_getElem.1 h.2.1
  by_cases hij : i = j
  · subst hij; rfl
  · rcases Nat.lt_or_gt_of_ne hij with h1 | h1
    · have := hp i j hi hj h1; omega
    · have := hp j i hj hi h1; omega
theorem idx_at {l : List Booking} {id : Int} {i : Nat} (h1 : idxB id l = (i : Int)) (hi : i < l.length) : (l[i]).f0 = id := by
  rcases idx_range id l with h | ⟨j, h, hj, h2⟩
  · omega
  · have : i = j := by omega
    subst this
    have := @List.findIdx_getElem _ (isB id) l (by rw [h2]; exact hi)
    simp only [h2] at this
    simpa [isB] using this
theorem may_erase {l : List Booking} (h : MayL l) (i : Nat) : MayL (l.eraseIdx i) :=
  ⟨fun x hx => h.1 x (List.mem_of_mem_eraseIdx hx), h.2.1.sublist (List.eraseIdx_sublist _ _), Nat.le_trans (List.eraseIdx_sublist _ _).length_le h.2.2⟩
theorem erase_mem {l : List Booking} (hM : MayL l) {i : Nat} (hi : i < l.length) (x : Booking) : x ∈ l.eraseIdx i ↔ x ∈ l ∧ x.f0 ≠ l[i].f0 := by
  rw [List.mem_eraseIdx_iff_getElem]
  constructor
  · rintro ⟨j, hj, hne, rfl⟩
    refine ⟨List.getElem_mem hj, fun e => hne ?_⟩
    have hp := List.pairwise_iff_getElem.1 hM.2.1
    rcases Nat.lt_trichotomy i j with h1 | h1 | h1
    · have := hp i j hi hj h1; omega
    · exact h1.symm
    · have := hp j i hj hi h1; omega
  · rintro ⟨hx, hne⟩
    obtain ⟨j, hj, rfl⟩ := List.getElem_of_mem hx
    exact ⟨j, hj, fun e => hne (by subst e; rfl), rfl⟩
theorem may_set {l : List Booking} (h : MayL l) {i : Nat} (hi : i < l.length) {y : Booking} (h0 : y.f0 = l[i].f0) (h1 : oneX y = true) : MayL (l.set i y) := by
  refine ⟨fun x hx => ?_, ?_, by rw [List.length_set]; exact h.2.2⟩
  · rcases List.mem_or_eq_of_mem_set hx with hx | rfl
    · exact h.1 x hx
    · exact h1
  · have hm : (l.set i y).map (·.f0) = l.map (·.f0) := by
      rw [List.map_set, h0]
      apply List.ext_getElem?
      intro j
      rw [List.getElem?_set]
      by_cases hj : i = j
      · subst hj
        rw [if_pos rfl, if_pos (by rw [List.length_map]; exact hi), List.getElem?_map, List.getElem?_eq_getElem hi]; rfl
      · rw [if_neg hj]
    have hp : (l.map (·.f0)).Pairwise (· < ·) := List.pairwise_map.2 h.2.1
    rw [← hm] at hp
    exact List.pairwise_map.1 hp
theorem set_mem {l : List Booking} {i : Nat} (hi : i < l.length) {y x : Booking} (h0 : y.f0 = l[i].f0) (hx0 : x.f0 ≠ l[i].f0) : x ∈ l.set i y ↔ x ∈ l := by
  constructor
  · intro hx
    rcases List.mem_or_eq_of_mem_set hx with hx | rfl
    · exact hx
    · exact absurd h0 hx0
  · intro hx
    obtain ⟨j, hj, rfl⟩ := List.getElem_of_mem hx
    have hne : i ≠ j := fun e => hx0 (by subst e; rfl)
    have : (l.set i y)[j]'(by rw [List.length_set]; exact hj) = l[j] := by rw [List.getElem_set, if_neg hne]
    rw [← this]
    exact List.getElem_mem _
/-- What a shipment that is made leaves. -/
theorem ship_ok {l : List Booking} {id line n : Int} (h : (shipP l id line n).2.2 = 0) :
    MayL l ∧ MayL (shipP l id line n).1 ∧ (shipP l id line n).1.length ≤ l.length ∧ ∀ x : Booking, x.f0 ≠ id → (x ∈ (shipP l id line n).1 ↔ x ∈ l) := by
  unfold shipP at h ⊢
  by_cases h0 : (foundP l id).2.2 = 0
  · obtain ⟨hM, i, hi, hix, hF⟩ := foundP_zero h0
    have hid := idx_at hix hi
    rw [if_pos h0] at h ⊢
    rw [hix, rdB hi, Int.toNat_natCast] at h ⊢
    by_cases h1 : line < 0 ∨ (l[i].f2.length : Int) ≤ line
    · rw [if_pos h1] at h; exact absurd h (by decide)
    · rw [if_neg h1] at h ⊢
      by_cases h2 : n ≤ 0
      · rw [if_pos h2] at h; exact absurd h (by decide)
      · rw [if_neg h2] at h ⊢
        by_cases h3 : (rd_T33 l[i].f2 line).f2 < n
        · rw [if_pos h3] at h; exact absurd h (by decide)
        · rw [if_neg h3] at h ⊢
          refine ⟨hM, ?_⟩
          dsimp only
          by_cases h4 : (l[i].f2.set line.toNat { rd_T33 l[i].f2 line with f2 := (rd_T33 l[i].f2 line).f2 - n }).any openL = true
          · rw [if_pos h4]
            refine ⟨may_set hM hi rfl ?_, by rw [List.length_set]; exact Nat.le_refl _, fun x hx => set_mem hi rfl (by rw [hid]; exact hx)⟩
            have hone := hM.1 l[i] (List.getElem_mem hi)
            unfold oneX oneB at hone ⊢
            rw [Bool.and_eq_true, Bool.and_eq_true, decide_eq_true_eq] at hone ⊢
            obtain ⟨⟨a1, a2, a3, a4, a5⟩, a6, a7⟩ := hone
            refine ⟨⟨a1, a2, a3, by rw [List.length_set]; exact a4, by rw [List.length_set]; exact a5⟩, ?_, h4⟩
            rw [Bool.not_eq_true'] at a6 ⊢
            rw [List.any_eq_false] at a6 ⊢
            intro y hy
            rcases List.mem_or_eq_of_mem_set hy with hy | rfl
            · exact a6 y hy
            · have hll : line.toNat < l[i].f2.length := by omega
              have hr : rd_T33 l[i].f2 line = l[i].f2[line.toNat] := by
                have := rdL hll
                rwa [Int.toNat_of_nonneg (by omega)] at this
              have := a6 _ (List.getElem_mem hll)
              rw [← hr] at this
              simp [oddL, lineB] at this ⊢
              omega
          · rw [if_neg h4]
            exact ⟨may_erase hM i, (List.eraseIdx_sublist _ _).length_le, fun x hx => by rw [erase_mem hM hi, hid]; exact ⟨fun h => h.1, fun h => ⟨h, hx⟩⟩⟩
  · rw [if_neg h0] at h; exact absurd h h0
theorem ship_err0 {l : List Booking} {id line n : Int} (h : (shipP l id line n).2.2 ≠ 0) : (shipP l id line n).1 = [] := by
  unfold shipP at h ⊢
  split <;> rename_i h0
  · rw [if_pos h0] at h
    split <;> rename_i h1
    · rfl
    · rw [if_neg h1] at h
      split <;> rename_i h2
      · rfl
      · rw [if_neg h2] at h
        split <;> rename_i h3
        · rfl
        · rw [if_neg h3] at h; exact absurd rfl h
  · rfl
/-- What a closing that is made leaves. -/
theorem close_ok {l : List Booking} {id : Int} (h : (closeP l id).2.2 = 0) :
    MayL l ∧ MayL (closeP l id).1 ∧ (closeP l id).1.length + 1 = l.length ∧ ∀ x : Booking, x ∈ (closeP l id).1 ↔ x ∈ l ∧ x.f0 ≠ id := by
  unfold closeP at h ⊢
  by_cases h0 : (foundP l id).2.2 = 0
  · obtain ⟨hM, i, hi, hix, hF⟩ := foundP_zero h0
    have hid := idx_at hix hi
    rw [if_pos h0, hix, Int.toNat_natCast]
    refine ⟨hM, may_erase hM i, ?_, fun x => ?_⟩
    · rw [List.length_eraseIdx_of_lt hi]; omega
    · rw [erase_mem hM hi, hid]
  · rw [if_neg h0] at h; exact absurd h h0
theorem close_err0 {l : List Booking} {id : Int} (h : (closeP l id).2.2 ≠ 0) : (closeP l id).1 = [] ∧ (closeP l id).2.1 = [] := by
  unfold closeP at h ⊢
  split <;> rename_i h0
  · rw [if_pos h0] at h; exact absurd rfl h
  · exact ⟨rfl, rfl⟩
end Go.Proofs.Ytjhdjkanepdgiaa.Book
