/- Whatever is asked of bookings is what the document says. No conditions beside those that each lemma states. -/
import Derived.Test.YtjhdjkanepdgiaaPh5
import Derived.Test.YtjhdjkanepdgiaaBookRefA
namespace Go.Proofs.Ytjhdjkanepdgiaa.Pure
open Go Go.RowKit Go.Proofs.Ytjhdjkanepdgiaa.Pa Go.Proofs.Ytjhdjkanepdgiaa.Pb Go.Proofs.Ytjhdjkanepdgiaa.Ph Go.Proofs.YtjhdjkanepdgiaaW.PrintWords Go.Proofs.YtjhdjkanepdgiaaW.PrintLast Go.Proofs.Ytjhdjkanepdgiaa.Book Go.Proofs.Ytjhdjkanepdgiaa.Ext Go.Proofs.Ytjhdjkanepdgiaa.Ask Go.Proofs.Ytjhdjkanepdgiaa.Refs Go.Proofs.Ytjhdjkanepdgiaa.Over
set_option linter.unusedVariables false

theorem awake_f {k : Nat} (hk : 40 ≤ k) : quartermasterlaw18_awake.f k = some true := by
  obtain ⟨d, rfl⟩ : ∃ d, k = 40 + d := ⟨k - 40, by omega⟩
  clear hk
  induction d with
  | zero => decide +kernel
  | succ d ih => exact quartermasterlaw18_awake.mono _ _ ih
theorem ints_l {l : List Int} (hl : l.length ≤ 999999999) (d : Nat) : ∀ (k i : Nat), i + d = l.length → d < k → quartermasterref08_Ints.l0 k l l (i : Int) = some true := by
  induction d with
  | zero =>
    intro k i h hk
    obtain ⟨m, rfl⟩ : ∃ m, k = m + 1 := ⟨k - 1, by omega⟩
    rw [quartermasterref08_Ints.l0, if_neg (by omega)]
  | succ d ih =>
    intro k i h hk
    obtain ⟨m, rfl⟩ : ∃ m, k = m + 1 := ⟨k - 1, by omega⟩
    rw [quartermasterref08_Ints.l0, if_pos (by omega), if_pos (by omega), if_pos (by omega), if_pos rfl, wi (by omega)]
    exact ih m (i + 1) (by omega) (by omega)
theorem ints_f {k : Nat} {l : List Int} (hl : l.length ≤ 999999999) (hk : l.length < k) : quartermasterref08_Ints.f k l l = some true := by
  unfold quartermasterref08_Ints.f
  rw [if_pos rfl]
  exact ints_l hl l.length k 0 (by omega) hk
theorem open_lines {l : List Booking} {x : Booking} (h : ∀ y ∈ l, y.f2.length ≤ 20) (hx : x.f2.length ≤ 20) : ∀ y ∈ (openP l x).1, y.f2.length ≤ 20 := fun y hy => by
  by_cases e0 : (openP l x).2 = 0
  · rw [(open_ok e0).2.2.1] at hy
    rcases List.mem_append.1 hy with h1 | h1
    · exact h y h1
    · rw [List.mem_singleton.1 h1]; exact hx
  · rw [open_err0 e0] at hy; cases hy
theorem may_lines {l : List Booking} (h : MayL l) : ∀ y ∈ l, y.f2.length ≤ 20 := fun y hy => by have := one_len (h.1 y hy); omega
theorem open_len {l : List Booking} {x : Booking} : (openP l x).1.length ≤ 20 := by
  by_cases e0 : (openP l x).2 = 0
  · have := (open_ok e0).2.2.2.2.2
    rw [(open_ok e0).2.2.1]; omega
  · rw [open_err0 e0]; simp
theorem ship_lines {l : List Booking} {id line n : Int} : (shipP l id line n).1.length ≤ 20 ∧ ∀ y ∈ (shipP l id line n).1, y.f2.length ≤ 20 := by
  by_cases e0 : (shipP l id line n).2.2 = 0
  · have h := (ship_ok e0).2.1
    exact ⟨by have := h.2.2; omega, may_lines h⟩
  · rw [ship_err0 e0]; simp
theorem close_lines {l : List Booking} {id : Int} : (closeP l id).1.length ≤ 20 ∧ ∀ y ∈ (closeP l id).1, y.f2.length ≤ 20 := by
  by_cases e0 : (closeP l id).2.2 = 0
  · have h := (close_ok e0).2.1
    exact ⟨by have := h.2.2; omega, may_lines h⟩
  · rw [(close_err0 e0).1]; simp
theorem close_rest {l : List Booking} {id : Int} : (closeP l id).2.1.length ≤ 20 := by
  by_cases e0 : (closeP l id).2.2 = 0
  · have hM := (close_ok e0).1
    unfold closeP at e0 ⊢
    by_cases h0 : (foundP l id).2.2 = 0
    · obtain ⟨-, i, hi, hix, -⟩ := foundP_zero h0
      rw [if_pos h0, hix, rdB hi]
      have h1 := List.length_filter_le openL l[i].f2
      have h2 := one_len (hM.1 _ (List.getElem_mem hi))
      show (l[i].f2.filter openL).length ≤ 20
      omega
    · rw [if_neg h0]; simp
  · rw [(close_err0 e0).2]; simp
theorem over_len20 {l : List Booking} {now : Int} : (overP l now).length ≤ 20 := by
  unfold overP
  by_cases hm : mayB l = true
  · rw [if_pos hm, List.length_map]
    have h1 := over_le l now
    have h2 := (mayB_iff.1 hm).2.2
    exact Nat.le_trans h1 (by omega)
  · rw [if_neg hm]; simp
theorem tells_j0 {k : Nat} {l : List Booking} (x : Booking) (id line n now : Int) (up : Bool) (hl : l.length ≤ 12) (hs : ∀ y ∈ l, y.f2.length ≤ 20) (hx : x.f2.length ≤ 20) (hL : Lim l) (hk : 2000 < k) :
    quartermasterlaw18_BookTells.j0 k l id line n now up false x.f0 x.f1 x.f2 = some true := by
  have hs2 : ∀ y ∈ l, y.f2.length ≤ 1000 := fun y hy => by have := hs y hy; omega
  obtain ⟨m, rfl⟩ : ∃ m, k = m + 2 := ⟨k - 2, by omega⟩
  have e1 : book_Ship.f l id line n = some ((shipP l id line n).1, (shipP l id line n).2.1.f0, (shipP l id line n).2.1.f1, (shipP l id line n).2.1.f2, (shipP l id line n).2.2) := by
    unfold book_Ship.f; rw [if_pos hL]
  have e2 : book_Close.f l id = some (closeP l id) := by
    unfold book_Close.f; rw [if_pos (by omega)]
  have e3 : book_Over.f l now = some (overP l now) := by
    unfold book_Over.f; rw [if_pos (by omega)]
  have s1 := ship_lines (l := l) (id := id) (line := line) (n := n)
  have s2 := close_lines (l := l) (id := id)
  have s3 := close_rest (l := l) (id := id)
  have s4 := over_len20 (l := l) (now := now)
  have s5 := open_len (l := l) (x := x)
  rw [quartermasterlaw18_BookTells.j0, if_neg (by decide), opens_f x (by omega) (by omega), Option.bind_some, ropen_f x hs2 (by omega) (by omega), Option.bind_some, same_f (by omega) (open_lines hs hx) (by omega), Option.bind_some, e1, Option.bind_some, rship_f id line n hL hs2 (by omega) (by omega), Option.bind_some, same_f (by have := s1.1; omega) s1.2 (by have := s1.1; omega), Option.bind_some, e2, Option.bind_some, rclose_f id hs2 (by omega) (by omega), Option.bind_some, same_f (by have := s2.1; omega) s2.2 (by have := s2.1; omega), Option.bind_some, lines_f (by omega) (by omega), Option.bind_some, e3, Option.bind_some, rover_f now hs2 (by omega), Option.bind_some, ints_f (by omega) (by omega), Option.bind_some, rmay_f hs2 (by omega), Option.bind_some, find_f id (by omega) (by omega), Option.bind_some, at_f (by omega) (by omega), Option.bind_some]
  dsimp only
  have hmay : book_May.f m l = some (mayB l) := may_f (by omega) (by omega)
  have hline : ((shipP l id line n).2.1.f0 == (shipP l id line n).2.1.f0 && ((shipP l id line n).2.1.f1 == (shipP l id line n).2.1.f1 && ((shipP l id line n).2.1.f2 == (shipP l id line n).2.1.f2))) = true := by simp
  by_cases hm : mayB l = true
  · rw [if_pos hm, quartermasterlaw18_BookTells.j1]
    unfold findP
    rw [if_pos hm]
    rcases idx_range id l with h0 | ⟨i, h0, hi, -⟩
    · rw [h0, if_pos (show ((-1 : Int) < 0) by decide), if_pos (show decide ((-1 : Int) < 0) = true by decide)]; simp [hmay]
    · have hsame : quartermasterref18_Same.f m [(⟨(l[i]).f0, (l[i]).f1, (l[i]).f2⟩ : Booking)] [l[i]] = some true := same_f (l := [l[i]]) (by simp) (fun y hy => by rw [List.mem_singleton.1 hy]; exact hs _ (List.getElem_mem hi)) (by simp; omega)
      have hcut : (l.take (i + 1)).drop i = [l[i]] := by
        rw [List.take_succ_eq_append_getElem hi, List.drop_append_of_le_length (by rw [List.length_take]; omega), List.drop_of_length_le (by rw [List.length_take]; omega), List.nil_append]
      rw [h0, if_neg (show ¬ ((i : Int) < 0) by omega), if_neg (show ¬ (decide ((i : Int) < 0) = true) by simp), if_pos (by omega), wi (by omega), if_pos (by omega), if_pos (by omega), rdB hi, Int.toNat_natCast, Int.toNat_natCast, hcut, hsame, Option.bind_some, if_pos rfl, if_pos rfl, if_pos rfl, if_pos rfl, if_pos rfl, if_pos rfl, if_pos rfl, if_pos rfl, if_pos rfl, if_pos rfl, if_pos hline, hmay, Option.bind_some]; simp
  · have hmf : mayB l = false := by simpa using hm
    rw [if_neg hm, quartermasterlaw18_BookTells.j1]
    unfold findP
    rw [if_neg hm, if_pos rfl]; simp [hmay]
theorem BookTells : quartermasterlaw18_BookTells.Pure := by
  intro l b0 b1 l2 id line n now hl hq _ _ hl2 hq2 _ _ _ _
  refine ⟨2500, ?_⟩
  have hj : quartermasterlaw18_BookTells.j0 2500 l id line n now true true b0 b1 l2 = some true := by
    rw [quartermasterlaw18_BookTells.j0, if_pos rfl]
  unfold quartermasterlaw18_BookTells.f
  rw [awake_f (by omega), Option.bind_some]
  by_cases h12 : (l.length : Int) > 12
  · rw [few_big h12, Option.bind_some, if_pos rfl, if_neg (by decide)]
    exact hj
  · rw [few_f (by omega) (by omega), Option.bind_some, if_pos rfl]
    by_cases hf : fewB l 12 = true
    · rw [if_pos hf]
      by_cases h20 : (l2.length : Int) > 20
      · rw [decide_eq_true h20]; exact hj
      · rw [decide_eq_false h20]
        exact tells_j0 ⟨b0, b1, l2⟩ id line n now true (by omega) (few_lines hf) (by show l2.length ≤ 20; omega) (lim_of hq (by omega)) (by omega)
    · rw [if_neg hf]; exact hj
end Go.Proofs.Ytjhdjkanepdgiaa.Pure
