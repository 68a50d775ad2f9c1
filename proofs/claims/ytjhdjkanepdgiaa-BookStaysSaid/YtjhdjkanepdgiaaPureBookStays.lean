/- Bookings that may be stay such. No conditions beside those that each lemma states. -/
import Derived.Test.YtjhdjkanepdgiaaPs3
import Derived.Test.YtjhdjkanepdgiaaBookSame
import Derived.Test.YtjhdjkanepdgiaaBookOpenP
namespace Go.Proofs.Ytjhdjkanepdgiaa.Pure
open Go Go.RowKit Go.Proofs.Ytjhdjkanepdgiaa.Pa Go.Proofs.Ytjhdjkanepdgiaa.Pb Go.Proofs.Ytjhdjkanepdgiaa.Ps Go.Proofs.YtjhdjkanepdgiaaW.PrintWords Go.Proofs.YtjhdjkanepdgiaaW.PrintLast Go.Proofs.Ytjhdjkanepdgiaa.Book Go.Proofs.Ytjhdjkanepdgiaa.Ext Go.Proofs.Ytjhdjkanepdgiaa.Ask
set_option linter.unusedVariables false

theorem awake_f {k : Nat} (hk : 40 ≤ k) : quartermasterlaw18_awake.f k = some true := by
  obtain ⟨d, rfl⟩ : ∃ d, k = 40 + d := ⟨k - 40, by omega⟩
  clear hk
  induction d with
  | zero => decide +kernel
  | succ d ih => exact quartermasterlaw18_awake.mono _ _ ih
theorem may_true {k : Nat} {l : List Booking} (h : MayL l) (hk : 20 < k) : book_May.f k l = some true := by
  have := h.2.2
  rw [may_f (by omega) (by omega), mayB_iff.2 h]
theorem stays_exit {k : Nat} {l : List Booking} (x : Booking) (id line n : Int) (hM : MayL l) (hL : Lim l) (h20 : ∀ y ∈ l, y.f2.length ≤ 20) (hk : l.length + 40 < k) :
    quartermasterlaw18_BookStays.l0 (k + 1) l id line n l (l.length : Int) x.f0 x.f1 x.f2 = some true := by
  have h8 := hM.2.2
  have hs : book_Ship.f l id line n = some ((shipP l id line n).1, (shipP l id line n).2.1.f0, (shipP l id line n).2.1.f1, (shipP l id line n).2.1.f2, (shipP l id line n).2.2) := by
    unfold book_Ship.f; rw [if_pos hL]
  have hc : book_Close.f l id = some (closeP l id) := by
    unfold book_Close.f; rw [if_pos (by omega)]
  unfold quartermasterlaw18_BookStays.l0
  rw [if_neg (by omega), opens_f x (by omega) (by omega), Option.bind_some, hs, Option.bind_some, hc, Option.bind_some, same_f (by omega) h20 (by omega), Option.bind_some]
  dsimp only
  by_cases e0 : (openP l x).2 = 0
  · obtain ⟨-, -, ha, hMa⟩ := open_ok e0
    have hma : book_May.f k (openP l x).1 = some true := by rw [ha]; exact may_true hMa (by omega)
    have hla : ((openP l x).1.length : Int) = wrap64 ((l.length : Int) + 1) := by rw [ha, wi (by omega), List.length_append, List.length_singleton]
    rw [if_pos e0, hma, Option.bind_some, if_pos rfl, if_pos hla]
    by_cases f0 : (shipP l id line n).2.2 = 0
    · obtain ⟨-, hMb, hlb, -⟩ := ship_ok f0
      have hlb2 : ((shipP l id line n).1.length : Int) ≤ (l.length : Int) := by omega
      rw [if_pos f0, may_true hMb (by omega), Option.bind_some, if_pos rfl, if_pos hlb2]
      by_cases g0 : (closeP l id).2.2 = 0
      · obtain ⟨-, hMc, hlc, -⟩ := close_ok g0
        have hlc2 : ((closeP l id).1.length : Int) = wrap64 ((l.length : Int) - 1) := by rw [wd (by omega) (by omega)]; omega
        rw [if_pos g0, may_true hMc (by omega), Option.bind_some, if_pos rfl, if_pos hlc2, if_pos rfl]
      · rw [if_neg g0, if_pos rfl, (close_err0 g0).1]; rfl
    · have hlb2 : ((shipP l id line n).1.length : Int) = 0 := by rw [ship_err0 f0]; rfl
      rw [if_neg f0]
      by_cases g0 : (closeP l id).2.2 = 0
      · obtain ⟨-, hMc, hlc, -⟩ := close_ok g0
        have hlc2 : ((closeP l id).1.length : Int) = wrap64 ((l.length : Int) - 1) := by rw [wd (by omega) (by omega)]; omega
        rw [if_pos g0, may_true hMc (by omega), Option.bind_some, if_pos rfl, if_pos hlc2, if_pos rfl, if_pos hlb2]
      · rw [if_neg g0, if_pos rfl, if_pos hlb2, (close_err0 g0).1]; rfl
  · have hla : ((openP l x).1.length : Int) = 0 := by rw [open_err0 e0]; rfl
    rw [if_neg e0]
    by_cases f0 : (shipP l id line n).2.2 = 0
    · obtain ⟨-, hMb, hlb, -⟩ := ship_ok f0
      have hlb2 : ((shipP l id line n).1.length : Int) ≤ (l.length : Int) := by omega
      rw [if_pos f0, may_true hMb (by omega), Option.bind_some, if_pos rfl, if_pos hlb2]
      by_cases g0 : (closeP l id).2.2 = 0
      · obtain ⟨-, hMc, hlc, -⟩ := close_ok g0
        have hlc2 : ((closeP l id).1.length : Int) = wrap64 ((l.length : Int) - 1) := by rw [wd (by omega) (by omega)]; omega
        rw [if_pos g0, may_true hMc (by omega), Option.bind_some, if_pos rfl, if_pos hlc2, if_pos rfl, if_pos hla]
      · rw [if_neg g0, if_pos rfl, if_pos hla, (close_err0 g0).1]; rfl
    · have hlb2 : ((shipP l id line n).1.length : Int) = 0 := by rw [ship_err0 f0]; rfl
      rw [if_neg f0]
      by_cases g0 : (closeP l id).2.2 = 0
      · obtain ⟨-, hMc, hlc, -⟩ := close_ok g0
        have hlc2 : ((closeP l id).1.length : Int) = wrap64 ((l.length : Int) - 1) := by rw [wd (by omega) (by omega)]; omega
        rw [if_pos g0, may_true hMc (by omega), Option.bind_some, if_pos rfl, if_pos hlc2, if_pos rfl, if_pos hla, if_pos hlb2]
      · rw [if_neg g0, if_pos rfl, if_pos hla, if_pos hlb2, (close_err0 g0).1]; rfl
theorem stays_l {l : List Booking} (x : Booking) (id line n : Int) (hM : MayL l) (hL : Lim l) (h20 : ∀ y ∈ l, y.f2.length ≤ 20) (d : Nat) : ∀ (k i : Nat), i + d = l.length → l.length + 40 + d < k →
    quartermasterlaw18_BookStays.l0 (k + 1) l id line n (l.take i) (i : Int) x.f0 x.f1 x.f2 = some true := by
  have h8 := hM.2.2
  induction d with
  | zero =>
    intro k i h hk
    obtain rfl : i = l.length := by omega
    rw [List.take_length]
    exact stays_exit x id line n hM hL h20 (by omega)
  | succ d ih =>
    intro k i h hk
    obtain ⟨m, rfl⟩ : ∃ m, k = m + 1 := ⟨k - 1, by omega⟩
    have hi : i < l.length := by omega
    have hy := h20 _ (List.getElem_mem hi)
    unfold quartermasterlaw18_BookStays.l0
    rw [if_pos (by omega), if_pos (by omega), rdB hi, if_pos (by rw [List.length_nil]; omega), if_pos (by rw [List.length_take]; omega), wi (by omega)]
    have e : l.take i ++ [(⟨(l[i]).f0, (l[i]).f1, [] ++ (l[i]).f2⟩ : Booking)] = l.take (i + 1) := by
      rw [List.nil_append, List.take_succ_eq_append_getElem hi]
    rw [e]
    exact ih m (i + 1) (by omega) (by omega)
theorem BookStays : quartermasterlaw18_BookStays.Pure := by
  intro l b0 b1 l2 id line n hl hq _ _ hl2 hq2 _ _ _
  refine ⟨l.length + 200, ?_⟩
  unfold quartermasterlaw18_BookStays.f
  rw [awake_f (by omega), Option.bind_some, few_f (by omega) (by omega), Option.bind_some, if_pos rfl]
  have hj : quartermasterlaw18_BookStays.j0 (l.length + 200) l id line n true true b0 b1 l2 = some true := by
    obtain ⟨m, hm⟩ : ∃ m, l.length + 200 = m + 1 := ⟨l.length + 199, by omega⟩
    rw [hm, quartermasterlaw18_BookStays.j0, if_pos rfl]
  by_cases hf : fewB l 12 = true
  · have h12 := few_len hf
    rw [if_pos hf]
    by_cases h20 : (l2.length : Int) > 20
    · rw [if_pos h20]; exact hj
    · rw [if_neg h20, may_f (by omega) (by omega), Option.bind_some]
      by_cases hM : mayB l = true
      · rw [hM]
        obtain ⟨m, hm⟩ : ∃ m, l.length + 200 = m + 1 + 1 := ⟨l.length + 198, by omega⟩
        rw [hm, quartermasterlaw18_BookStays.j0, if_neg (by decide)]
        exact stays_l ⟨b0, b1, l2⟩ id line n (mayB_iff.1 hM) (lim_of hq (by omega)) (few_lines hf) l.length m 0 (by omega) (by omega)
      · have hMf : mayB l = false := by simpa using hM
        rw [hMf]; exact hj
  · rw [if_neg hf]; exact hj
end Go.Proofs.Ytjhdjkanepdgiaa.Pure
