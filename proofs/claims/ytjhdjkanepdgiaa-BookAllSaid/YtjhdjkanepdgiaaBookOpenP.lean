/- Bookings: what book.Open comes to, as a plain law, and what it keeps. No program in sight. -/
import Derived.Test.YtjhdjkanepdgiaaBookKeeps
namespace Go.Proofs.Ytjhdjkanepdgiaa.Book
open Go Go.RowKit Go.Proofs.Ytjhdjkanepdgiaa.Pa Go.Proofs.Ytjhdjkanepdgiaa.Pb Go.Proofs.Ytjhdjkanepdgiaa.Ext Go.Proofs.YtjhdjkanepdgiaaW.PrintWords
set_option linter.unusedVariables false

def openP (l : List Booking) (x : Booking) : List Booking × Int :=
  if mayB l = true then (if oneX x = true then (if 0 < l.length ∧ x.f0 ≤ (rd_T25 l ((l.length - 1 : Nat) : Int)).f0 then ([], 5) else (if l.length = 8 then ([], 4) else (l ++ [x], 0))) else ([], 1)) else ([], 1)
theorem opens_f {k : Nat} {l : List Booking} (x : Booking) (hl : l.length ≤ 999999999) (hk : l.length + 5 < k) : book_Open.f k l x.f0 x.f1 x.f2 = some (openP l x) := by
  obtain ⟨m, rfl⟩ : ∃ m, k = m + 2 := ⟨k - 2, by omega⟩
  have h1 : book_one.f x.f0 x.f1 x.f2 = some (oneX x) := rfl
  unfold book_Open.f openP
  rw [may_f (by omega) (by omega), h1]
  simp only [Option.bind_some]
  by_cases hm : mayB l = true
  · have hM := mayB_iff.1 hm
    have h8 := hM.2.2
    have hj1 : ∀ (j : Nat) (b : Bool), m ≤ j → book_Open.j1 (j + 1) l b x.f0 x.f1 x.f2 = if b = true then some ([], 5) else if l.length = 8 then some ([], 4) else if oneX x = true then some (l ++ [x], 0) else book_Open.j1 (j + 1) l b x.f0 x.f1 x.f2 := fun j b hj => by
      by_cases hb : b = true
      · rw [if_pos hb, book_Open.j1, if_pos hb]
      · rw [if_neg hb]
        by_cases h88 : l.length = 8
        · rw [if_pos h88, book_Open.j1, if_neg hb, if_pos (by omega)]
        · rw [if_neg h88]
          by_cases ho : oneX x = true
          · rw [if_pos ho, book_Open.j1, if_neg hb, if_neg (by omega), copied_f hl hM.len (by omega), Option.bind_some, own_f x (by have := one_len ho; omega), Option.bind_some, if_pos (by omega)]
          · rw [if_neg ho]
    rw [if_pos hm, if_pos hm, book_Open.j0]
    by_cases ho : oneX x = true
    · rw [if_pos ho, if_neg (by rw [ho]; decide)]
      by_cases h0 : 0 < l.length
      · rw [if_pos (by omega), wd h0 (by omega), if_pos (by omega), if_pos (by omega), hj1 m _ (by omega)]
        by_cases hle : x.f0 ≤ (rd_T25 l ((l.length - 1 : Nat) : Int)).f0
        · rw [if_pos (by simpa using hle), if_pos ⟨h0, hle⟩]
        · rw [if_neg (by simpa using hle), if_neg (show ¬ (0 < l.length ∧ x.f0 ≤ (rd_T25 l ((l.length - 1 : Nat) : Int)).f0) from fun h => hle h.2)]
          by_cases h88 : l.length = 8
          · rw [if_pos h88, if_pos h88]
          · rw [if_neg h88, if_neg h88, if_pos ho]
      · rw [if_neg (by omega), hj1 m _ (by omega), if_neg (by decide), if_neg (show ¬ (0 < l.length ∧ x.f0 ≤ (rd_T25 l ((l.length - 1 : Nat) : Int)).f0) from fun h => h0 h.1)]
        by_cases h88 : l.length = 8
        · rw [if_pos h88, if_pos h88]
        · rw [if_neg h88, if_neg h88, if_pos ho]
    · have hof : oneX x = false := by simpa using ho
      rw [if_neg ho, if_pos (by rw [hof]; rfl)]
  · have hmf : mayB l = false := by simpa using hm
    rw [if_neg hm, if_neg hm, book_Open.j0, if_pos (by rw [hmf]; rfl)]
/-- What an opening that is made leaves. -/
theorem open_ok {l : List Booking} {x : Booking} (h : (openP l x).2 = 0) : MayL l ∧ oneX x = true ∧ (openP l x).1 = l ++ [x] ∧ MayL (l ++ [x]) := by
  unfold openP at h ⊢
  by_cases hm : mayB l = true
  · rw [if_pos hm] at h ⊢
    by_cases ho : oneX x = true
    · rw [if_pos ho] at h ⊢
      by_cases hle : 0 < l.length ∧ x.f0 ≤ (rd_T25 l ((l.length - 1 : Nat) : Int)).f0
      · rw [if_pos hle] at h; exact absurd h (by decide)
      · rw [if_neg hle] at h ⊢
        by_cases h8 : l.length = 8
        · rw [if_pos h8] at h; exact absurd h (by decide)
        · rw [if_neg h8] at h ⊢
          have hM := mayB_iff.1 hm
          refine ⟨hM, ho, rfl, fun y hy => ?_, ?_, ?_⟩
          · rcases List.mem_append.1 hy with hy | hy
            · exact hM.1 y hy
            · rw [List.mem_singleton.1 hy]; exact ho
          · rw [List.pairwise_append]
            refine ⟨hM.2.1, List.pairwise_singleton _ _, fun a ha b hb => ?_⟩
            rw [List.mem_singleton.1 hb]
            obtain ⟨i, hi, rfl⟩ := List.getElem_of_mem ha
            have h0 : 0 < l.length := by omega
            have hlast : (l[l.length - 1]'(by omega)).f0 < x.f0 := by
              have this : ¬ (x.f0 ≤ (rd_T25 l ((l.length - 1 : Nat) : Int)).f0) := fun h => hle ⟨h0, h⟩
              rw [rdB (show l.length - 1 < l.length by omega)] at this
              omega
            by_cases hil : i = l.length - 1
            · subst hil; exact hlast
            · have := List.pairwise_iff_getElem.1 hM.2.1 i (l.length - 1) hi (by omega) (by omega)
              omega
          · have := hM.2.2
            rw [List.length_append, List.length_singleton]; omega
    · rw [if_neg ho] at h; exact absurd h (by decide)
  · rw [if_neg hm] at h; exact absurd h (by decide)
theorem open_err0 {l : List Booking} {x : Booking} (h : (openP l x).2 ≠ 0) : (openP l x).1 = [] := by
  unfold openP at h ⊢
  split <;> rename_i h0
  · rw [if_pos h0] at h
    split <;> rename_i h1
    · rw [if_pos h1] at h
      split <;> rename_i h2
      · rfl
      · rw [if_neg h2] at h
        split <;> rename_i h3
        · rfl
        · rw [if_neg h3] at h; exact absurd rfl h
    · rfl
  · rfl
end Go.Proofs.Ytjhdjkanepdgiaa.Book
