/- What is shipped, and what is left, are together what was opened. No conditions beside those that each lemma states. -/
import Derived.Test.YtjhdjkanepdgiaaPka
import Derived.Test.YtjhdjkanepdgiaaBookAllP
namespace Go.Proofs.Ytjhdjkanepdgiaa.Pure
open Go Go.RowKit Go.Proofs.Ytjhdjkanepdgiaa.Pa Go.Proofs.Ytjhdjkanepdgiaa.Pb Go.Proofs.Ytjhdjkanepdgiaa.Pk Go.Proofs.YtjhdjkanepdgiaaW.PrintWords Go.Proofs.YtjhdjkanepdgiaaW.PrintLast Go.Proofs.Ytjhdjkanepdgiaa.Book Go.Proofs.Ytjhdjkanepdgiaa.Ext Go.Proofs.Ytjhdjkanepdgiaa.Ask Go.Proofs.Ytjhdjkanepdgiaa.AllB
set_option linter.unusedVariables false

theorem awake_f {k : Nat} (hk : 40 ≤ k) : quartermasterlaw18_awake.f k = some true := by
  obtain ⟨d, rfl⟩ : ∃ d, k = 40 + d := ⟨k - 40, by omega⟩
  clear hk
  induction d with
  | zero => decide +kernel
  | succ d ih => exact quartermasterlaw18_awake.mono _ _ ih
def gat (g0 g1 g2 g3 : Int) : Nat → Int
  | 0 => g0
  | 1 => g1
  | 2 => g2
  | 3 => g3
  | _ => 0
theorem gat_zero : gat 0 0 0 0 = fun _ => 0 := by
  funext i
  match i with
  | 0 => rfl
  | 1 => rfl
  | 2 => rfl
  | 3 => rfl
  | n + 4 => rfl
theorem gat0 (g0 g1 g2 g3 n : Int) : upd (gat g0 g1 g2 g3) 0 n = gat (g0 + n) g1 g2 g3 := by
  funext i
  match i with
  | 0 => rfl
  | 1 => rfl
  | 2 => rfl
  | 3 => rfl
  | n + 4 => rfl
theorem gat1 (g0 g1 g2 g3 n : Int) : upd (gat g0 g1 g2 g3) 1 n = gat g0 (g1 + n) g2 g3 := by
  funext i
  match i with
  | 0 => rfl
  | 1 => rfl
  | 2 => rfl
  | 3 => rfl
  | n + 4 => rfl
theorem gat2 (g0 g1 g2 g3 n : Int) : upd (gat g0 g1 g2 g3) 2 n = gat g0 g1 (g2 + n) g3 := by
  funext i
  match i with
  | 0 => rfl
  | 1 => rfl
  | 2 => rfl
  | 3 => rfl
  | n + 4 => rfl
theorem gat3 (g0 g1 g2 g3 n : Int) : upd (gat g0 g1 g2 g3) 3 n = gat g0 g1 g2 (g3 + n) := by
  funext i
  match i with
  | 0 => rfl
  | 1 => rfl
  | 2 => rfl
  | 3 => rfl
  | n + 4 => rfl
theorem all_j3 {x : Booking} {m : List Booking} {rest want : List Line} {e g0 g1 g2 g3 : Int} {k j : Nat} (hj : j < x.f2.length) (h4 : j < 4) : lawAll.j3 (k + 1) m rest e want (j : Int) true x.f0 x.f1 x.f2 g0 g1 g2 g3 =
    if wrap64 (x.f2[j].f2 - gat g0 g1 g2 g3 j) < 0 then none else if wrap64 (x.f2[j].f2 - gat g0 g1 g2 g3 j) > 0 then (if want.length < 5864062014805 then lawAll.l1 k m rest e (want ++ [⟨x.f2[j].f0, x.f2[j].f1, wrap64 (x.f2[j].f2 - gat g0 g1 g2 g3 j)⟩]) (wrap64 ((j : Int) + 1)) x.f0 x.f1 x.f2 g0 g1 g2 g3 else none) else lawAll.l1 k m rest e want (wrap64 ((j : Int) + 1)) x.f0 x.f1 x.f2 g0 g1 g2 g3 := by
  rw [lawAll.j3, if_pos rfl, if_pos (by omega), if_pos (by omega), rdL hj]
  match j, h4 with
  | 0, _ => rw [if_pos (by decide)]; rfl
  | 1, _ => rw [if_neg (by decide), if_pos (by decide)]; rfl
  | 2, _ => rw [if_neg (by decide), if_neg (by decide), if_pos (by decide)]; rfl
  | 3, _ => rw [if_neg (by decide), if_neg (by decide), if_neg (by decide), if_pos (by decide)]; rfl
theorem all_l1 {x : Booking} {m : List Booking} {g0 g1 g2 g3 : Int} (hx : oneX x = true) (hS : St x (gat g0 g1 g2 g3) m) (hq : ∀ y ∈ x.f2, y.f2 < 9223372036854775808) (d : Nat) : ∀ (k j : Nat), j + d = x.f2.length → d + d + 30 < k →
    lawAll.l1 k m (closeP m x.f0).2.1 (closeP m x.f0).2.2 (((left x.f2 (gat g0 g1 g2 g3)).take j).filter openL) (j : Int) x.f0 x.f1 x.f2 g0 g1 g2 g3 = some true := by
  have h14 := one_len hx
  have hlen : ∀ j, (((left x.f2 (gat g0 g1 g2 g3)).take j).filter openL).length ≤ 4 := fun j => by
    refine Nat.le_trans (List.length_filter_le _ _) ?_
    rw [List.length_take, left_length]; omega
  induction d with
  | zero =>
    intro k j h hk
    obtain ⟨q, rfl⟩ : ∃ q, k = q + 1 + 1 := ⟨k - 2, by omega⟩
    have hw := hlen j
    rw [lawAll.l1, if_neg (by omega), lawAll.j3, if_neg (by decide), st_close hx hS]
    rw [want_all (by omega)] at hw ⊢
    obtain ⟨e1, e2, e3⟩ := st_len hS
    by_cases hn : (left x.f2 (gat g0 g1 g2 g3)).filter openL = []
    · have hm := e2 hn
      have ho : ¬ (left x.f2 (gat g0 g1 g2 g3)).any openL = true := fun h => by
        obtain ⟨y, hy, h2⟩ := List.any_eq_true.1 h
        rw [List.filter_eq_nil_iff] at hn
        exact hn y hy h2
      rw [if_neg ho, hn, hm]; rfl
    · have ho := e3 hn
      have hpos := List.length_pos_iff.2 hn
      rw [if_pos ho, if_neg (by omega)]
      dsimp only
      rw [if_pos rfl, lines_f (by omega) (by omega)]; rfl
  | succ d ih =>
    intro k j h hk
    obtain ⟨q, rfl⟩ : ∃ q, k = q + 1 + 1 := ⟨k - 2, by omega⟩
    have hj : j < x.f2.length := by omega
    have hG := hS.1 j hj
    have hl := hq _ (List.getElem_mem hj)
    have hwr : wrap64 (x.f2[j].f2 - gat g0 g1 g2 g3 j) = x.f2[j].f2 - gat g0 g1 g2 g3 j := w64 (by omega) (by omega)
    have hw := hlen j
    have hst := want_step (G := gat g0 g1 g2 g3) hj
    have hrec := ih q (j + 1) (by omega) (by omega)
    rw [lawAll.l1, if_pos (by omega), decide_eq_true (by omega), all_j3 hj (by omega), hwr, wi (by omega), if_neg (by omega)]
    by_cases h0 : x.f2[j].f2 - gat g0 g1 g2 g3 j > 0
    · rw [if_pos h0, if_pos (by omega)]
      rw [if_pos h0] at hst
      rw [hst] at hrec
      exact hrec
    · rw [if_neg h0]
      rw [if_neg (show ¬ (0 < x.f2[j].f2 - gat g0 g1 g2 g3 j) from h0), List.append_nil] at hst
      rw [hst] at hrec
      exact hrec
theorem all_l0 {x : Booking} {l : List S43} (hx : oneX x = true) (hl : l.length ≤ 40) (hq : ∀ y ∈ x.f2, y.f2 < 9223372036854775808) (d : Nat) : ∀ (k i : Nat) (m : List Booking) (g0 g1 g2 g3 : Int), St x (gat g0 g1 g2 g3) m → i + d = l.length → d + 100 < k →
    lawAll.l0 k l m (i : Int) x.f0 x.f1 x.f2 g0 g1 g2 g3 = some true := by
  have h14 := one_len hx
  induction d with
  | zero =>
    intro k i m g0 g1 g2 g3 hS h hk
    obtain ⟨q, rfl⟩ : ∃ q, k = q + 1 := ⟨k - 1, by omega⟩
    have hm := (st_len hS).1
    have hc : book_Close.f m x.f0 = some (closeP m x.f0) := by unfold book_Close.f; rw [if_pos (by omega)]
    rw [lawAll.l0, if_neg (by omega), hc, Option.bind_some]
    exact all_l1 hx hS hq x.f2.length q 0 (by omega) (by omega)
  | succ d ih =>
    intro k i m g0 g1 g2 g3 hS h hk
    obtain ⟨q, rfl⟩ : ∃ q, k = q + 1 := ⟨k - 1, by omega⟩
    have hs : ∀ line n, book_Ship.f m x.f0 line n = some ((shipP m x.f0 line n).1, (shipP m x.f0 line n).2.1.f0, (shipP m x.f0 line n).2.1.f1, (shipP m x.f0 line n).2.1.f2, (shipP m x.f0 line n).2.2) := fun line n => by
      unfold book_Ship.f; rw [if_pos (st_lim hS hq)]
    rw [lawAll.l0, if_pos (by omega), if_pos (by omega), hs, Option.bind_some, wi (by omega)]
    dsimp only
    by_cases e0 : (shipP m x.f0 (rd_T43 l (i : Int)).f0 (rd_T43 l (i : Int)).f1).2.2 = 0
    · obtain ⟨p, hp, hpl, hp4, hn0, hG0, hG1, hsg, hst⟩ := st_ship hx hS e0
      have hlp := hq _ (List.getElem_mem hpl)
      rw [if_pos e0, hp, if_neg (by omega), if_neg (by omega), if_neg (by omega), if_pos (by omega), if_pos (by omega)]
      rw [hp] at hsg hst
      rw [hsg]
      dsimp only
      rw [rdL hpl, if_pos rfl, if_pos rfl]
      have hwr : wrap64 (gat g0 g1 g2 g3 p + (rd_T43 l (i : Int)).f1) = gat g0 g1 g2 g3 p + (rd_T43 l (i : Int)).f1 := w64 (by omega) (by omega)
      match p, hp4 with
      | 0, _ =>
        rw [if_pos (by decide)]
        have h2 : wrap64 (g0 + (rd_T43 l (i : Int)).f1) = g0 + (rd_T43 l (i : Int)).f1 := hwr
        rw [h2]
        rw [gat0] at hst
        exact ih q (i + 1) _ _ _ _ _ hst (by omega) (by omega)
      | 1, _ =>
        rw [if_neg (by decide), if_pos (by decide)]
        have h2 : wrap64 (g1 + (rd_T43 l (i : Int)).f1) = g1 + (rd_T43 l (i : Int)).f1 := hwr
        rw [h2]
        rw [gat1] at hst
        exact ih q (i + 1) _ _ _ _ _ hst (by omega) (by omega)
      | 2, _ =>
        rw [if_neg (by decide), if_neg (by decide), if_pos (by decide)]
        have h2 : wrap64 (g2 + (rd_T43 l (i : Int)).f1) = g2 + (rd_T43 l (i : Int)).f1 := hwr
        rw [h2]
        rw [gat2] at hst
        exact ih q (i + 1) _ _ _ _ _ hst (by omega) (by omega)
      | 3, _ =>
        rw [if_neg (by decide), if_neg (by decide), if_neg (by decide), if_pos (by decide)]
        have h2 : wrap64 (g3 + (rd_T43 l (i : Int)).f1) = g3 + (rd_T43 l (i : Int)).f1 := hwr
        rw [h2]
        rw [gat3] at hst
        exact ih q (i + 1) _ _ _ _ _ hst (by omega) (by omega)
    · rw [if_neg e0]
      exact ih q (i + 1) m g0 g1 g2 g3 hS (by omega) (by omega)
theorem lim33 {x2 : List Line} (hq : ∀ y ∈ x2, qT33 y) : ∀ y ∈ x2, y.f2 < 9223372036854775808 := fun y hy => by
  have h := (hq y hy).2.2
  simp only [Lit.wf, Bool.and_eq_true, decide_eq_true_eq] at h
  have h2 : IntKind.i64.max = 9223372036854775807 := by decide
  rw [h2] at h
  omega
theorem BookAll : lawAll.Pure := by
  intro x0 x1 x2 l _ _ _ hq _ _
  refine ⟨500, ?_⟩
  unfold lawAll.f
  rw [awake_f (by omega), Option.bind_some, if_pos rfl]
  have hj : ∀ b : Bool, lawAll.j0 500 l true b x0 x1 x2 = if b = true then some true else (book_Open.f 499 [] x0 x1 x2).bind fun bt133 => (if bt133.2 = 0 then (lawAll.l0 499 l bt133.1 0 x0 x1 x2 0 0 0 0) else (if bt133.2 = 1 then (some ((bt133.1.length : Int) == 0)) else (none))) := fun b => by
    rw [lawAll.j0]
  rw [hj, hj]
  by_cases h20 : (x2.length : Int) > 20
  · rw [if_pos h20, if_pos rfl]
  · rw [if_neg h20]
    by_cases h40 : (l.length : Int) > 40
    · rw [if_pos (decide_eq_true h40)]
    · have ho : book_Open.f 499 [] x0 x1 x2 = some (openP [] ⟨x0, x1, x2⟩) := opens_f (l := []) ⟨x0, x1, x2⟩ (by simp) (by simp)
      rw [if_neg (by rw [decide_eq_false h40]; decide), ho, Option.bind_some, open_nil]
      by_cases hx : oneX ⟨x0, x1, x2⟩ = true
      · rw [if_pos hx, if_pos rfl]
        exact all_l0 (x := ⟨x0, x1, x2⟩) hx (by omega) (lim33 hq) l.length 499 0 _ 0 0 0 0 (by rw [gat_zero]; exact st_start hx) (by omega) (by omega)
      · rw [if_neg hx, if_neg (by decide), if_pos rfl]; rfl
end Go.Proofs.Ytjhdjkanepdgiaa.Pure
