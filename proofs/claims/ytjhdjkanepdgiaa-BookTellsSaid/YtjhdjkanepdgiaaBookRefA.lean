/- Bookings: whose time has come, as a sorted list: plain laws. No program in sight. -/
import Derived.Test.YtjhdjkanepdgiaaBookExt3
import Derived.Test.YtjhdjkanepdgiaaBookKeeps
import Derived.Test.YtjhdjkanepdgiaaPh4
import Derived.Test.YtjhdjkanepdgiaaPh3
import Derived.Test.YtjhdjkanepdgiaaPa4o
import Derived.Test.YtjhdjkanepdgiaaBookSame
import Derived.Test.YtjhdjkanepdgiaaBookOpenP
namespace Go.Proofs.Ytjhdjkanepdgiaa.OverP
open Go Go.RowKit Go.Proofs.Ytjhdjkanepdgiaa.Pa Go.Proofs.YtjhdjkanepdgiaaW.PrintWords Go.Proofs.Ytjhdjkanepdgiaa.Book Go.Proofs.Ytjhdjkanepdgiaa.Over Go.Proofs.Ytjhdjkanepdgiaa.Due
set_option linter.unusedVariables false

theorem overS_spec (l : List Booking) : Sorted (overS l) ∧ (overS l).Perm (l.map dueOf) := by
  suffices h : ∀ (l : List Booking) (s : List D), Sorted s → Sorted (l.foldl (fun s x => ins (dueOf x) s) s) ∧ (l.foldl (fun s x => ins (dueOf x) s) s).Perm (l.map dueOf ++ s) by
    have := h l [] List.Pairwise.nil
    rwa [List.append_nil] at this
  intro l
  induction l with
  | nil => intro s hs; exact ⟨hs, List.Perm.refl _⟩
  | cons x r ih =>
    intro s hs
    obtain ⟨h1, h2⟩ := ih (ins (dueOf x) s) (ins_sorted _ _ hs)
    rw [List.foldl_cons]
    refine ⟨h1, h2.trans ?_⟩
    rw [List.map_cons, List.cons_append]
    exact ((ins_perm (dueOf x) s).append_left _).trans List.perm_middle
theorem tw_filter (now : Int) : ∀ S : List D, Sorted S → S.takeWhile (comeB now) = S.filter (comeB now)
  | [], _ => rfl
  | a :: t, h => by
    have ht := List.pairwise_cons.1 h
    by_cases hc : comeB now a = true
    · rw [List.takeWhile_cons_of_pos hc, List.filter_cons_of_pos hc, tw_filter now t ht.2]
    · rw [List.takeWhile_cons_of_neg hc, List.filter_cons_of_neg hc]
      symm
      rw [List.filter_eq_nil_iff]
      intro b hb hcb
      have h1 := ht.1 b hb
      rw [lt_false] at h1
      simp only [comeB, decide_eq_true_eq] at hc hcb
      omega
theorem over_strict {l : List Booking} (h : MayL l) (now : Int) : ((overS l).takeWhile (comeB now)).Pairwise (fun a b => lt a b = true) := by
  obtain ⟨h1, h2⟩ := overS_spec l
  have hn : (overS l).Pairwise (fun a b => a.f1 ≠ b.f1) := by
    refine h2.symm.pairwise ?_ (fun h e => h e.symm)
    rw [List.pairwise_map]
    exact h.2.1.imp (fun h => by show _ ≠ _; simp only [dueOf]; omega)
  have : (overS l).Pairwise (fun a b => lt a b = true) := (h1.and hn).imp (fun {a b} h => by
    have h1 := h.1
    rw [lt_false] at h1
    rw [lt_iff]
    have := h.2
    omega)
  exact this.sublist (List.takeWhile_sublist _)
theorem over_mem {l : List Booking} {now : Int} {t : D} (h : t ∈ (overS l).takeWhile (comeB now)) : t.f0 ≤ now ∧ ∃ x ∈ l, x.f1 = t.f0 ∧ x.f0 = t.f1 := by
  obtain ⟨h1, h2⟩ := overS_spec l
  have hs : t ∈ overS l := (List.takeWhile_sublist _).subset h
  rw [tw_filter now _ h1, List.mem_filter] at h
  obtain ⟨x, hx, rfl⟩ := List.mem_map.1 ((h2.mem_iff).1 hs)
  exact ⟨by simpa [comeB] using h.2, x, hx, rfl, rfl⟩
end Go.Proofs.Ytjhdjkanepdgiaa.OverP

namespace Go.Proofs.Ytjhdjkanepdgiaa.Refs
open Go Go.RowKit Go.Proofs.Ytjhdjkanepdgiaa.Pa Go.Proofs.Ytjhdjkanepdgiaa.Pb Go.Proofs.Ytjhdjkanepdgiaa.Ph Go.Proofs.YtjhdjkanepdgiaaW.PrintWords Go.Proofs.YtjhdjkanepdgiaaW.PrintLast Go.Proofs.Ytjhdjkanepdgiaa.Book Go.Proofs.Ytjhdjkanepdgiaa.Ext Go.Proofs.Ytjhdjkanepdgiaa.Ask
set_option linter.unusedVariables false

theorem one_l {l : List Line} (id due : Int) (hl : l.length ≤ 999999999) (d : Nat) : ∀ (k i : Nat) (s : Bool), i + d = l.length → d < k → quartermasterref18_one.l0 k s (i : Int) id due l = some (!(l.drop i).any oddL && (s || (l.drop i).any openL)) := by
  induction d with
  | zero =>
    intro k i s h hk
    obtain ⟨m, rfl⟩ : ∃ m, k = m + 1 := ⟨k - 1, by omega⟩
    rw [quartermasterref18_one.l0, if_neg (by omega), List.drop_of_length_le (by omega)]; simp
  | succ d ih =>
    intro k i s h hk
    obtain ⟨m, rfl⟩ : ∃ m, k = m + 1 := ⟨k - 1, by omega⟩
    have hi : i < l.length := by omega
    have hr1 := ih m (i + 1) true (by omega) (by omega)
    have hr2 := ih m (i + 1) (decide (l[i].f2 > 0)) (by omega) (by omega)
    have ho : openL l[i] = decide (l[i].f2 > 0) := rfl
    rw [quartermasterref18_one.l0, if_pos (by omega), if_pos (by omega), rdL hi, wi (by omega), List.drop_eq_getElem_cons hi, List.any_cons, List.any_cons, hr1, hr2, ho]
    by_cases a1 : l[i].f0 < 0
    · rw [if_pos a1, show oddL l[i] = true by simp [oddL, lineB]; omega]; rfl
    · rw [if_neg a1]
      by_cases a2 : l[i].f0 > 15
      · rw [if_pos a2, show oddL l[i] = true by simp [oddL, lineB]; omega]; rfl
      · rw [if_neg a2]
        by_cases a3 : l[i].f1 < 0
        · rw [if_pos a3, show oddL l[i] = true by simp [oddL, lineB]; omega]; rfl
        · rw [if_neg a3]
          by_cases a4 : l[i].f1 > 3
          · rw [if_pos a4, show oddL l[i] = true by simp [oddL, lineB]; omega]; rfl
          · rw [if_neg a4]
            by_cases a5 : l[i].f2 < 0
            · rw [if_pos a5, show oddL l[i] = true by simp [oddL, lineB]; omega]; rfl
            · rw [if_neg a5, show oddL l[i] = false by simp [oddL, lineB]; omega]
              cases s with
              | true => rw [if_pos rfl, Bool.false_or, Bool.true_or, Bool.true_or]
              | false => rw [if_neg (by decide), Bool.false_or, Bool.false_or]
theorem one_f {k : Nat} (x : Booking) (hk : x.f2.length + 3 < k) (hl : x.f2.length ≤ 999999999) : quartermasterref18_one.f k x.f0 x.f1 x.f2 = some (oneX x) := by
  obtain ⟨m, rfl⟩ : ∃ m, k = m + 1 := ⟨k - 1, by omega⟩
  have h0 := one_l (l := x.f2) x.f0 x.f1 hl x.f2.length m 0 false (by omega) (by omega)
  have hj : ∀ b, quartermasterref18_one.j0 (m + 1) b x.f0 x.f1 x.f2 = if b = true then some false else some (!x.f2.any oddL && x.f2.any openL) := fun b => by
    rw [quartermasterref18_one.j0]
    by_cases hb : b = true
    · rw [if_pos hb, if_pos hb]
    · rw [if_neg hb, if_neg hb]
      exact h0.trans (by rw [List.drop_zero, Bool.false_or])
  unfold quartermasterref18_one.f oneX oneB
  rw [hj, hj]
  by_cases a1 : x.f0 < 1
  · rw [if_pos a1, if_pos rfl, decide_eq_false (by omega)]; rfl
  · rw [if_neg a1]
    by_cases a2 : x.f1 < 0
    · rw [if_pos a2, if_pos rfl, decide_eq_false (by omega)]; rfl
    · rw [if_neg a2]
      by_cases a3 : x.f1 > 1099511627776
      · rw [if_pos a3, if_pos rfl, decide_eq_false (by omega)]; rfl
      · rw [if_neg a3]
        by_cases a4 : (x.f2.length : Int) < 1
        · rw [if_pos a4, if_pos rfl, decide_eq_false (by omega)]; rfl
        · rw [if_neg a4]
          by_cases a5 : (x.f2.length : Int) > 4
          · rw [if_pos (decide_eq_true a5), decide_eq_false (by omega)]; rfl
          · rw [if_neg (by rw [decide_eq_false a5]; decide), decide_eq_true (by omega), Bool.true_and]
theorem rmay_l {l : List Booking} (hl : l.length ≤ 99999999) (hs : ∀ x ∈ l, x.f2.length ≤ 1000) (d : Nat) : ∀ (k i : Nat), i + d = l.length → d + 1010 < k →
    quartermasterref18_May.l0 k l i = some ((List.range' i d).all (stepB l)) := by
  induction d with
  | zero =>
    intro k i h hk
    obtain ⟨k, rfl⟩ : ∃ m, k = m + 1 := ⟨k - 1, by omega⟩
    rw [quartermasterref18_May.l0, if_neg (by omega)]; rfl
  | succ d ih =>
    intro k i h hk
    obtain ⟨k, rfl⟩ : ∃ m, k = m + 1 := ⟨k - 1, by omega⟩
    have hi : i < l.length := by omega
    have hx := hs _ (List.getElem_mem hi)
    have hone : quartermasterref18_one.f k (rd_T25 l i).f0 (rd_T25 l i).f1 (rd_T25 l i).f2 = some (oneX (rd_T25 l i)) := one_f _ (by rw [rdB hi]; omega) (by rw [rdB hi]; omega)
    have hst : stepB l i = (oneX (rd_T25 l i) && (decide (i = 0) || decide ((rd_T25 l ((i - 1 : Nat) : Int)).f0 < (rd_T25 l i).f0))) := rfl
    have hrec := ih k (i + 1) (by omega) (by omega)
    rw [List.range'_succ, List.all_cons, quartermasterref18_May.l0, if_pos (by omega), if_pos (by omega), hone, Option.bind_some, wi (by omega), hrec, hst]
    cases h1 : oneX (rd_T25 l i) with
    | false => simp
    | true =>
      rw [if_pos rfl, Bool.true_and]
      by_cases h5 : (i : Int) > 0
      · rw [if_pos h5, wd (by omega) (by omega), if_pos (by omega), if_pos (by omega)]
        rw [decide_eq_false (by omega : ¬ i = 0), Bool.false_or]
        by_cases h6 : (rd_T25 l i).f0 ≤ (rd_T25 l ((i - 1 : Nat) : Int)).f0
        · rw [if_pos h6, decide_eq_false (by omega : ¬ (rd_T25 l ((i - 1 : Nat) : Int)).f0 < (rd_T25 l i).f0)]; rfl
        · rw [if_neg h6, decide_eq_true (by omega : (rd_T25 l ((i - 1 : Nat) : Int)).f0 < (rd_T25 l i).f0), Bool.true_and]
      · rw [if_neg h5, decide_eq_true (by omega : i = 0), Bool.true_or, Bool.true_and]
theorem rmay_f {k : Nat} {l : List Booking} (hs : ∀ x ∈ l, x.f2.length ≤ 1000) (hk : 1100 < k) : quartermasterref18_May.f k l = some (mayB l) := by
  unfold quartermasterref18_May.f
  rw [mayB_range]
  by_cases h8 : (l.length : Int) > 8
  · rw [if_pos h8, decide_eq_false (by omega), Bool.and_false]
  · rw [if_neg h8, decide_eq_true (by omega), Bool.and_true]
    exact rmay_l (by omega) hs l.length k 0 (by omega) (by omega)
theorem idx_first {l : List Booking} {id : Int} {i : Nat} (hi : i < l.length) (h : l[i].f0 = id) (hn : ∀ j (hj : j < l.length), j < i → l[j].f0 ≠ id) : idxB id l = (i : Int) := by
  unfold idxB
  rw [if_pos (List.any_eq_true.2 ⟨l[i], List.getElem_mem hi, by simp [isB, h]⟩)]
  congr 1
  rw [List.findIdx_eq hi]
  exact ⟨by simp [isB, h], fun j hj => by simpa [isB] using hn j (by omega) hj⟩
theorem idx_never {l : List Booking} {id : Int} (hn : ∀ j (hj : j < l.length), l[j].f0 ≠ id) : idxB id l = -1 := by
  unfold idxB
  rw [if_neg]
  intro h
  obtain ⟨x, hx, hx2⟩ := List.any_eq_true.1 h
  obtain ⟨j, hj, rfl⟩ := List.getElem_of_mem hx
  exact hn j hj (by simpa [isB] using hx2)
theorem at_l {l : List Booking} {id : Int} (hl : l.length ≤ 999999999) (d : Nat) : ∀ (k i : Nat), i + d = l.length → d < k → (∀ j (hj : j < l.length), j < i → l[j].f0 ≠ id) →
    quartermasterref18_At.l0 k l id i = some (idxB id l) := by
  induction d with
  | zero =>
    intro k i h hk hn
    obtain ⟨k, rfl⟩ : ∃ m, k = m + 1 := ⟨k - 1, by omega⟩
    rw [quartermasterref18_At.l0, if_neg (by omega), idx_never (fun j hj => hn j hj (by omega))]
  | succ d ih =>
    intro k i h hk hn
    obtain ⟨k, rfl⟩ : ∃ m, k = m + 1 := ⟨k - 1, by omega⟩
    have hi : i < l.length := by omega
    rw [quartermasterref18_At.l0, if_pos (by omega), if_pos (by omega), rdB hi, wi (by omega)]
    by_cases h2 : l[i].f0 = id
    · rw [if_pos h2, idx_first hi h2 hn]
    · rw [if_neg h2]
      exact ih k (i + 1) (by omega) (by omega) (fun j hj hji => by
        by_cases e : j = i
        · subst e; exact h2
        · exact hn j hj (by omega))
theorem at_f {k : Nat} {l : List Booking} {id : Int} (hl : l.length ≤ 999999999) (hk : l.length < k) : quartermasterref18_At.f k l id = some (idxB id l) :=
  at_l hl l.length k 0 (by omega) hk (fun j hj h => absurd h (by omega))
theorem ropen_f {k : Nat} {l : List Booking} (x : Booking) (hs : ∀ y ∈ l, y.f2.length ≤ 1000) (hx : x.f2.length ≤ 1000) (hk : 1200 < k) : quartermasterref18_Open.f k l x.f0 x.f1 x.f2 = some (openP l x) := by
  obtain ⟨m, rfl⟩ : ∃ m, k = m + 2 := ⟨k - 2, by omega⟩
  unfold quartermasterref18_Open.f openP
  rw [rmay_f hs (by omega), Option.bind_some, one_f x (by omega) (by omega), Option.bind_some]
  by_cases hm : mayB l = true
  · have h8 := (mayB_iff.1 hm).2.2
    have hj1 : ∀ b : Bool, quartermasterref18_Open.j1 (m + 1) l b x.f0 x.f1 x.f2 = if b = true then some ([], 5) else if l.length = 8 then some ([], 4) else some (l ++ [x], 0) := fun b => by
      rw [quartermasterref18_Open.j1]
      by_cases hb : b = true
      · rw [if_pos hb, if_pos hb]
      · rw [if_neg hb, if_neg hb]
        by_cases h88 : l.length = 8
        · rw [if_pos h88, if_pos (by omega)]
        · rw [if_neg h88, if_neg (by omega), if_pos (by rw [List.length_nil]; omega), Option.bind_some, List.nil_append, if_pos (by omega)]
    rw [if_pos hm, if_pos hm, quartermasterref18_Open.j0]
    by_cases ho : oneX x = true
    · rw [if_pos ho, if_neg (by rw [ho]; decide)]
      by_cases h0 : 0 < l.length
      · rw [if_pos (by omega), wd h0 (by omega), if_pos (by omega), if_pos (by omega), hj1]
        by_cases hle : x.f0 ≤ (rd_T25 l ((l.length - 1 : Nat) : Int)).f0
        · rw [if_pos (by simpa using hle), if_pos ⟨h0, hle⟩]
        · rw [if_neg (by simpa using hle), if_neg (show ¬ (0 < l.length ∧ x.f0 ≤ (rd_T25 l ((l.length - 1 : Nat) : Int)).f0) from fun h => hle h.2)]
          by_cases h88 : l.length = 8
          · rw [if_pos h88, if_pos h88]
          · rw [if_neg h88, if_neg h88]
      · rw [if_neg (by omega), hj1, if_neg (by decide), if_neg (show ¬ (0 < l.length ∧ x.f0 ≤ (rd_T25 l ((l.length - 1 : Nat) : Int)).f0) from fun h => h0 h.1)]
        by_cases h88 : l.length = 8
        · rw [if_pos h88, if_pos h88]
        · rw [if_neg h88, if_neg h88]
    · have hof : oneX x = false := by simpa using ho
      rw [if_neg ho, if_pos (by rw [hof]; rfl)]
  · have hmf : mayB l = false := by simpa using hm
    rw [if_neg hm, if_neg hm, quartermasterref18_Open.j0, if_pos rfl]
theorem without_f {l : List Booking} {i : Nat} (hi : i < l.length) (hl : l.length ≤ 999999999) : quartermasterref18_without.f l (i : Int) = some (l.eraseIdx i) := by
  unfold quartermasterref18_without.f
  rw [if_pos (by omega), if_pos (by omega), Option.bind_some, if_pos (by rw [List.length_nil, List.length_take]; omega), Option.bind_some, wi (by omega), if_pos (by omega), if_pos (by omega), Option.bind_some, Int.toNat_natCast, Int.toNat_natCast, if_pos (by rw [List.length_append, List.length_nil, List.length_take, List.length_drop]; omega), List.nil_append, List.eraseIdx_eq_take_drop_succ]
theorem ship_l {l : List Booking} {id : Int} {i : Nat} (hi : i < l.length) (hl : l.length ≤ 999999999) {L : List Line} (hL : L.length ≤ 1000) (g0 g1 g2 : Int) (d : Nat) : ∀ (k j : Nat) (s : Bool), j + d = L.length → d < k →
    quartermasterref18_Ship.l0 k l id (i : Int) L s (j : Int) g0 g1 g2 = some ((if (s || (L.drop j).any openL) = true then l.set i ⟨id, l[i].f1, L⟩ else l.eraseIdx i), g0, g1, g2, 0) := by
  induction d with
  | zero =>
    intro k j s h hk
    obtain ⟨k, rfl⟩ : ∃ m, k = m + 1 := ⟨k - 1, by omega⟩
    rw [quartermasterref18_Ship.l0, if_neg (by omega), List.drop_of_length_le (by omega), List.any_nil, Bool.or_false]
    cases s with
    | true => rw [if_pos rfl, if_pos rfl, if_pos (by rw [List.length_nil]; omega), Option.bind_some, List.nil_append, if_pos (by omega), if_pos (by omega), if_pos (by omega), rdB hi, Int.toNat_natCast]
    | false => rw [if_neg (by decide), if_neg (by decide), without_f hi hl]; rfl
  | succ d ih =>
    intro k j s h hk
    obtain ⟨k, rfl⟩ : ∃ m, k = m + 1 := ⟨k - 1, by omega⟩
    have hj : j < L.length := by omega
    have ho : openL L[j] = decide (L[j].f2 > 0) := rfl
    rw [quartermasterref18_Ship.l0, if_pos (by omega), rdL hj, wi (by omega), List.drop_eq_getElem_cons hj, List.any_cons, ho]
    cases s with
    | true => rw [if_pos rfl, ih k (j + 1) true (by omega) (by omega), Bool.true_or, Bool.true_or]
    | false => rw [if_neg (by decide), if_pos (by omega), ih k (j + 1) _ (by omega) (by omega), Bool.false_or]
theorem rship_f {k : Nat} {l : List Booking} (id line n : Int) (hL : Lim l) (hs : ∀ y ∈ l, y.f2.length ≤ 1000) (hl : l.length ≤ 99) (hk : 1400 < k) : quartermasterref18_Ship.f k l id line n = some ((shipP l id line n).1, (shipP l id line n).2.1.f0, (shipP l id line n).2.1.f1, (shipP l id line n).2.1.f2, (shipP l id line n).2.2) := by
  obtain ⟨m, rfl⟩ : ∃ m, k = m + 1 := ⟨k - 1, by omega⟩
  unfold quartermasterref18_Ship.f
  rw [rmay_f hs (by omega), Option.bind_some]
  by_cases hm : mayB l = true
  · rw [if_pos hm, at_f (by omega) (by omega), Option.bind_some]
    by_cases h0 : idxB id l < 0
    · have e : (foundP l id) = ([], 0, 3) := by unfold foundP; rw [if_pos hm, if_pos h0]
      have es : shipP l id line n = ([], z33, 3) := by unfold shipP; rw [e]; rfl
      rw [if_pos h0, es, quartermasterref18_Ship.j0, if_pos rfl]; rfl
    · have e : (foundP l id) = (l, idxB id l, 0) := by unfold foundP; rw [if_pos hm, if_neg h0]
      obtain ⟨-, i, hi, hix, -⟩ := foundP_zero (l := l) (id := id) (by rw [e])
      have hM := mayB_iff.1 hm
      have h4 := one_len (hM.1 _ (List.getElem_mem hi))
      have hid := idx_at hix hi
      rw [if_neg h0]
      rw [hix] at h0 ⊢
      unfold shipP
      rw [if_pos (show (foundP l id).2.2 = 0 by rw [e]), hix, rdB hi, Int.toNat_natCast]
      by_cases h1 : line < 0 ∨ (l[i].f2.length : Int) ≤ line
      · rw [if_pos h1]
        by_cases h1a : line < 0
        · rw [if_pos h1a, quartermasterref18_Ship.j0, if_pos rfl]; rfl
        · rw [if_neg h1a, if_pos (by omega), if_pos (by omega), decide_eq_true (by omega), quartermasterref18_Ship.j0, if_pos rfl]; rfl
      · rw [if_neg h1, if_neg (show ¬ line < 0 by omega), if_pos (by omega), if_pos (by omega), decide_eq_false (by omega), quartermasterref18_Ship.j0, if_neg (by decide)]
        by_cases h2 : n ≤ 0
        · rw [if_pos h2, if_pos h2]; rfl
        · obtain ⟨q, rfl⟩ : ∃ q : Nat, line = (q : Int) := ⟨line.toNat, by omega⟩
          have hq : q < l[i].f2.length := by omega
          rw [if_neg h2, if_neg h2, rdB hi, if_pos (by omega), if_pos (by omega), if_pos (by omega), if_pos (by omega), rdL hq]
          by_cases h3 : l[i].f2[q].f2 < n
          · rw [if_pos h3, if_pos h3]; rfl
          · have hlim := hL.2 _ (List.getElem_mem hi) _ (List.getElem_mem hq)
            rw [if_neg h3, if_neg h3, if_pos (by rw [List.length_nil]; omega), Option.bind_some, List.nil_append, if_pos (by omega), rdL hq, w64 (by omega) (by omega), Int.toNat_natCast]
            have hrec := ship_l (id := id) hi (by omega) (L := l[i].f2.set q ⟨l[i].f2[q].f0, l[i].f2[q].f1, l[i].f2[q].f2 - n⟩) (by rw [List.length_set]; omega) l[i].f2[q].f0 l[i].f2[q].f1 n (l[i].f2.set q ⟨l[i].f2[q].f0, l[i].f2[q].f1, l[i].f2[q].f2 - n⟩).length m 0 false (by omega) (by rw [List.length_set]; omega)
            refine hrec.trans ?_
            rw [List.drop_zero, Bool.false_or, ← hid]
  · have e : (foundP l id) = ([], 0, 1) := by unfold foundP; rw [if_neg hm]
    have es : shipP l id line n = ([], z33, 1) := by unfold shipP; rw [e]; rfl
    rw [if_neg hm, es]; rfl
theorem close_l {l : List Booking} {i : Nat} (hi : i < l.length) (hl : l.length ≤ 999999999) (hL : l[i].f2.length ≤ 1000) (d : Nat) : ∀ (k j : Nat) (out : List Line), j + d = l[i].f2.length → d < k → out.length ≤ j →
    quartermasterref18_Close.l0 k l (i : Int) out (j : Int) = some (l.eraseIdx i, out ++ (l[i].f2.drop j).filter openL, 0) := by
  induction d with
  | zero =>
    intro k j out h hk ho
    obtain ⟨k, rfl⟩ : ∃ m, k = m + 1 := ⟨k - 1, by omega⟩
    rw [quartermasterref18_Close.l0, if_pos (by omega), if_pos (by omega), rdB hi, if_neg (by omega), without_f hi hl, Option.bind_some, List.drop_of_length_le (by omega), List.filter_nil, List.append_nil]
  | succ d ih =>
    intro k j out h hk ho
    obtain ⟨k, rfl⟩ : ∃ m, k = m + 1 := ⟨k - 1, by omega⟩
    have hj : j < l[i].f2.length := by omega
    rw [quartermasterref18_Close.l0, if_pos (by omega), if_pos (by omega), rdB hi, if_pos (by omega), if_pos (by omega), rdL hj, wi (by omega), List.drop_eq_getElem_cons hj]
    by_cases hop : l[i].f2[j].f2 > 0
    · rw [if_pos hop, if_pos (by omega), ih k (j + 1) _ (by omega) (by omega) (by rw [List.length_append, List.length_singleton]; omega), List.filter_cons_of_pos (by simpa [openL] using hop), List.append_assoc]; rfl
    · rw [if_neg hop, ih k (j + 1) _ (by omega) (by omega) (by omega), List.filter_cons_of_neg (by simpa [openL] using hop)]
theorem rclose_f {k : Nat} {l : List Booking} (id : Int) (hs : ∀ y ∈ l, y.f2.length ≤ 1000) (hl : l.length ≤ 99) (hk : 1400 < k) : quartermasterref18_Close.f k l id = some (closeP l id) := by
  unfold quartermasterref18_Close.f
  rw [rmay_f hs (by omega), Option.bind_some]
  by_cases hm : mayB l = true
  · rw [if_pos hm, at_f (by omega) (by omega), Option.bind_some]
    by_cases h0 : idxB id l < 0
    · have e : (foundP l id) = ([], 0, 3) := by unfold foundP; rw [if_pos hm, if_pos h0]
      have es : closeP l id = ([], [], 3) := by unfold closeP; rw [e]; rfl
      rw [if_pos h0, es]
    · have e : (foundP l id) = (l, idxB id l, 0) := by unfold foundP; rw [if_pos hm, if_neg h0]
      obtain ⟨-, i, hi, hix, -⟩ := foundP_zero (l := l) (id := id) (by rw [e])
      have hlen := hs _ (List.getElem_mem hi)
      rw [if_neg h0]
      unfold closeP
      rw [if_pos (show (foundP l id).2.2 = 0 by rw [e]), hix, rdB hi, Int.toNat_natCast]
      have := close_l hi (by omega) hlen l[i].f2.length k 0 [] (by omega) (by omega) (by simp)
      refine this.trans ?_
      rw [List.drop_zero, List.nil_append]
  · have e : (foundP l id) = ([], 0, 1) := by unfold foundP; rw [if_neg hm]
    have es : closeP l id = ([], [], 1) := by unfold closeP; rw [e]; rfl
    rw [if_neg hm, es]
end Go.Proofs.Ytjhdjkanepdgiaa.Refs

namespace Go.Proofs.Ytjhdjkanepdgiaa.Refs
open Go Go.RowKit Go.Proofs.Ytjhdjkanepdgiaa.Pa Go.Proofs.Ytjhdjkanepdgiaa.Pb Go.Proofs.YtjhdjkanepdgiaaW.PrintWords Go.Proofs.YtjhdjkanepdgiaaW.PrintLast Go.Proofs.Ytjhdjkanepdgiaa.Book Go.Proofs.Ytjhdjkanepdgiaa.Ext Go.Proofs.Ytjhdjkanepdgiaa.Over Go.Proofs.Ytjhdjkanepdgiaa.OverP Go.Proofs.Ytjhdjkanepdgiaa.Due
set_option linter.unusedVariables false

theorem rdU {u : List Bool} {i : Nat} (h : i < u.length) : rdOf false u (i : Int) = u[i] := by simp [rdOf, h]
def Cand (l : List Booking) (now : Int) (u : List Bool) (j : Nat) : Prop := rdOf false u (j : Int) = false ∧ (rd_T25 l (j : Int)).f1 ≤ now
def Best (l : List Booking) (now : Int) (u : List Bool) (i : Nat) (b : Int) : Prop :=
  (b = -1 ∧ ∀ j, j < i → ¬ Cand l now u j) ∨ ∃ m : Nat, b = (m : Int) ∧ m < i ∧ Cand l now u m ∧ ∀ j, j < i → Cand l now u j → (rd_T25 l (m : Int)).f1 < (rd_T25 l (j : Int)).f1 ∨ ((rd_T25 l (m : Int)).f1 = (rd_T25 l (j : Int)).f1 ∧ m ≤ j)
theorem Best.skip {l : List Booking} {now : Int} {u : List Bool} {i : Nat} {b : Int} (h : Best l now u i b) (hn : ¬ Cand l now u i) : Best l now u (i + 1) b := by
  rcases h with ⟨h1, h2⟩ | ⟨m, h1, h2, h3, h4⟩
  · exact .inl ⟨h1, fun j hj => by
      by_cases e : j = i
      · subst e; exact hn
      · exact h2 j (by omega)⟩
  · exact .inr ⟨m, h1, by omega, h3, fun j hj hc => by
      by_cases e : j = i
      · subst e; exact absurd hc hn
      · exact h4 j (by omega) hc⟩
theorem rover_in {l : List Booking} {now : Int} {out : List Int} {u : List Bool} (hl : l.length ≤ 999999999) (hu : u.length = l.length) (d : Nat) : ∀ (k i : Nat) (b : Int), i + d = l.length → Best l now u i b →
    ∃ b', Best l now u l.length b' ∧ quartermasterref18_Over.l1 (k + d) l now out u b (i : Int) = quartermasterref18_Over.l1 k l now out u b' (l.length : Int) := by
  induction d with
  | zero =>
    intro k i b h hb
    obtain rfl : i = l.length := by omega
    exact ⟨b, hb, rfl⟩
  | succ d ih =>
    intro k i b h hb
    have hi : i < l.length := by omega
    rw [show k + (d + 1) = (k + d) + 1 by omega, quartermasterref18_Over.l1, if_pos (by omega), if_pos (by omega), if_pos (by omega), wi (by omega)]
    by_cases h1 : rdOf false u (i : Int) = true
    · rw [if_pos h1]
      exact ih k (i + 1) b (by omega) (hb.skip (fun hc => by rw [hc.1] at h1; cases h1))
    · have h1f : rdOf false u (i : Int) = false := by simpa using h1
      rw [if_neg h1]
      by_cases h2 : (rd_T25 l (i : Int)).f1 ≤ now
      · rw [if_pos h2]
        rcases hb with ⟨e1, e2⟩ | ⟨m, e1, e2, e3, e4⟩
        · subst e1
          rw [if_pos (by decide)]
          refine ih k (i + 1) i (by omega) (.inr ⟨i, rfl, by omega, ⟨h1f, h2⟩, fun j hj hc => ?_⟩)
          by_cases e : j = i
          · subst e; exact .inr ⟨rfl, Nat.le_refl _⟩
          · exact absurd hc (e2 j (by omega))
        · subst e1
          rw [if_neg (by omega), if_pos (by omega), if_pos (by omega)]
          by_cases h3 : (rd_T25 l (i : Int)).f1 < (rd_T25 l (m : Int)).f1
          · rw [if_pos h3]
            refine ih k (i + 1) i (by omega) (.inr ⟨i, rfl, by omega, ⟨h1f, h2⟩, fun j hj hc => ?_⟩)
            by_cases e : j = i
            · subst e; exact .inr ⟨rfl, Nat.le_refl _⟩
            · have := e4 j (by omega) hc
              omega
          · rw [if_neg h3]
            refine ih k (i + 1) m (by omega) (.inr ⟨m, rfl, by omega, e3, fun j hj hc => ?_⟩)
            by_cases e : j = i
            · subst e; omega
            · exact e4 j (by omega) hc
      · rw [if_neg h2]
        exact ih k (i + 1) b (by omega) (hb.skip (fun hc => h2 hc.2))
theorem over_in {l : List Booking} {now : Int} {x : Booking} (hx : x ∈ l) (h : x.f1 ≤ now) : dueOf x ∈ (overS l).takeWhile (comeB now) := by
  obtain ⟨h1, h2⟩ := overS_spec l
  rw [tw_filter now _ h1, List.mem_filter]
  exact ⟨(h2.mem_iff).2 (List.mem_map.2 ⟨x, hx, rfl⟩), decide_eq_true (show (dueOf x).f0 ≤ now from h)⟩
theorem due_inj {l : List Booking} (h : MayL l) {x y : Booking} (hx : x ∈ l) (hy : y ∈ l) (e : dueOf x = dueOf y) : x = y :=
  ids_inj h hx hy (congrArg (·.f1) e)
set_option maxHeartbeats 4000000 in
theorem rover_out {l : List Booking} {now : Int} {T : List D} (hM : MayL l) (hT : T = (overS l).takeWhile (comeB now)) (hTl : T.length ≤ l.length) (d : Nat) : ∀ (k j : Nat) (u : List Bool), j + d = T.length → 220 < k + 20 * j → u.length = l.length →
    (∀ i (hi : i < l.length), rdOf false u (i : Int) = true ↔ dueOf l[i] ∈ T.take j) → quartermasterref18_Over.l0 k l now ((T.take j).map (·.f1)) u = some (T.map (·.f1)) := by
  have h8 := hM.2.2
  have hst : T.Pairwise (fun a b => lt a b = true) := by rw [hT]; exact over_strict hM now
  have hmem : ∀ t, t ∈ T → t.f0 ≤ now ∧ ∃ x ∈ l, dueOf x = t := fun t ht => by
    rw [hT] at ht
    obtain ⟨h1, x, hx, e1, e2⟩ := over_mem ht
    exact ⟨h1, x, hx, by unfold dueOf; rw [e1, e2]⟩
  -- who is no longer there is not told again
  have hfree : ∀ (j : Nat) (hj : j < T.length), T[j] ∉ T.take j := fun j hj hm => by
    obtain ⟨p, hp, e⟩ := List.getElem_of_mem hm
    rw [List.length_take] at hp
    rw [List.getElem_take] at e
    have := List.pairwise_iff_getElem.1 hst p j (by omega) hj (by omega)
    rw [e, lt_irrefl] at this
    cases this
  induction d with
  | zero =>
    intro k j u h hk hu hI
    obtain ⟨m, rfl⟩ : ∃ m, k = m + 2 + l.length := ⟨k - 2 - l.length, by omega⟩
    obtain rfl : j = T.length := by omega
    rw [show m + 2 + l.length = (m + 1 + l.length) + 1 by omega, quartermasterref18_Over.l0]
    obtain ⟨b, hb, e⟩ := rover_in (now := now) (out := (T.take T.length).map (·.f1)) (by omega) hu l.length (m + 1) 0 (-1) (by omega) (.inl ⟨rfl, fun j hj => absurd hj (by omega)⟩)
    refine e.trans ?_
    rcases hb with ⟨rfl, hn⟩ | ⟨q, rfl, hq, hc, hmin⟩
    · rw [quartermasterref18_Over.l1, if_neg (by omega), if_pos (by decide), List.take_length]
    · exfalso
      have h2 := hc.2
      rw [rdB hq] at h2
      have h3 : dueOf l[q] ∈ T := by rw [hT]; exact over_in (List.getElem_mem hq) h2
      have h4 := (hI q hq).2 (by rw [List.take_length]; exact h3)
      rw [hc.1] at h4
      cases h4
  | succ d ih =>
    intro k j u h hk hu hI
    obtain ⟨m, rfl⟩ : ∃ m, k = m + 2 + l.length := ⟨k - 2 - l.length, by omega⟩
    have hj : j < T.length := by omega
    have hkm : 220 < m + 20 * (j + 1) := by omega
    have hjd : j + 1 + d = T.length := by omega
    rw [show m + 2 + l.length = (m + 1 + l.length) + 1 by omega, quartermasterref18_Over.l0]
    obtain ⟨b, hb, e⟩ := rover_in (now := now) (out := (T.take j).map (·.f1)) (by omega) hu l.length (m + 1) 0 (-1) (by omega) (.inl ⟨rfl, fun j hj => absurd hj (by omega)⟩)
    refine e.trans ?_
    -- the next one
    obtain ⟨hnow, x, hx, hxd⟩ := hmem T[j] (List.getElem_mem hj)
    obtain ⟨p, hp, rfl⟩ := List.getElem_of_mem hx
    have hcp : Cand l now u p := by
      refine ⟨?_, by rw [rdB hp]; have : (dueOf l[p]).f0 = (T[j]).f0 := by rw [hxd]
                     show (l[p]).f1 ≤ now
                     have h3 : (l[p]).f1 = (T[j]).f0 := this
                     omega⟩
      have : ¬ rdOf false u (p : Int) = true := fun h => hfree j hj (hxd ▸ (hI p hp).1 h)
      simpa using this
    rcases hb with ⟨rfl, hn⟩ | ⟨q, rfl, hq, hc, hmin⟩
    · exact absurd hcp (hn p hp)
    · have h2 := hc.2
      rw [rdB hq] at h2
      have h3 : dueOf l[q] ∈ T := by rw [hT]; exact over_in (List.getElem_mem hq) h2
      have h4 : dueOf l[q] ∉ T.take j := fun h => by
        have := (hI q hq).2 h
        rw [hc.1] at this; cases this
      obtain ⟨r, hr, er⟩ := List.getElem_of_mem h3
      have hrj : j ≤ r := by
        rcases Nat.lt_or_ge r j with h5 | h5
        · exact absurd (List.mem_iff_getElem.2 ⟨r, by rw [List.length_take]; omega, by rw [List.getElem_take]; exact er⟩) h4
        · exact h5
      have hqp : dueOf l[q] = T[j] := by
        rcases Nat.eq_or_lt_of_le hrj with h5 | h5
        · subst h5; exact er.symm
        · exfalso
          have h6 := List.pairwise_iff_getElem.1 hst j r hj hr h5
          rw [er, ← hxd, lt_iff] at h6
          have h7 := hmin p hp hcp
          rw [rdB hp, rdB hq] at h7
          have e1 : (dueOf l[p]).f0 = l[p].f1 := rfl
          have e2 : (dueOf l[q]).f0 = l[q].f1 := rfl
          have e3 : (dueOf l[p]).f1 = l[p].f0 := rfl
          have e4 : (dueOf l[q]).f1 = l[q].f0 := rfl
          rcases Nat.lt_trichotomy q p with h8 | h8 | h8
          · have := List.pairwise_iff_getElem.1 hM.2.1 q p hq hp h8
            omega
          · subst h8; omega
          · omega
      have hout : ((T.take j).map (·.f1)).length = j := by rw [List.length_map, List.length_take]; omega
      rw [quartermasterref18_Over.l1, if_neg (by omega), if_neg (by omega), if_pos (by omega), if_pos (by omega), if_pos (by omega), if_pos (by rw [hout]; omega), rdB hq, Int.toNat_natCast]
      have eT : T.take (j + 1) = T.take j ++ [dueOf l[q]] := by rw [List.take_succ_eq_append_getElem hj, hqp]
      have e2 : (T.take j).map (·.f1) ++ [l[q].f0] = (T.take (j + 1)).map (·.f1) := by rw [eT, List.map_append]; rfl
      rw [e2]
      refine ih m (j + 1) _ hjd hkm (by rw [List.length_set]; exact hu) (fun i hi => ?_)
      rw [rdU (by rw [List.length_set]; omega), List.getElem_set, eT, List.mem_append, List.mem_singleton, ← hI i hi, rdU (by omega)]
      by_cases hqi : q = i
      · subst hqi; simp
      · rw [if_neg hqi]
        constructor
        · exact fun h => .inl h
        · rintro (h | h)
          · exact h
          · have h9 := due_inj hM (List.getElem_mem hi) (List.getElem_mem hq) h
            have hp2 := List.pairwise_iff_getElem.1 hM.2.1
            rcases Nat.lt_trichotomy q i with h8 | h8 | h8
            · have := hp2 q i hq hi h8; rw [h9] at this; omega
            · exact absurd h8 hqi
            · have := hp2 i q hi hq h8; rw [h9] at this; omega
theorem over_le (l : List Booking) (now : Int) : ((overS l).takeWhile (comeB now)).length ≤ l.length := by
  have h := (List.takeWhile_sublist (comeB now) (l := overS l)).length_le
  rwa [overS_length l _ rfl] at h
theorem rover_f {k : Nat} {l : List Booking} (now : Int) (hs : ∀ x ∈ l, x.f2.length ≤ 1000) (hk : 1400 < k) : quartermasterref18_Over.f k l now = some (overP l now) := by
  unfold quartermasterref18_Over.f overP
  rw [rmay_f hs (by omega), Option.bind_some]
  by_cases hm : mayB l = true
  · have hM := mayB_iff.1 hm
    have h8 := hM.2.2
    have hb1 : (0 : Int) ≤ (l.length : Int) := by omega
    have hb2 : ((l.length : Int) : Int).toNat ≤ 281474976710656 := by omega
    rw [if_pos hm, if_pos hm, if_pos hb1, if_pos hb2, Int.toNat_natCast]
    have hle := over_le l now
    obtain ⟨T, hT⟩ : ∃ T, T = (overS l).takeWhile (comeB now) := ⟨_, rfl⟩
    rw [← hT] at hle ⊢
    have h := rover_out hM hT hle T.length k 0 (List.replicate l.length false) (by omega) (by omega) (by simp) (fun i hi => by
      rw [rdU (by rw [List.length_replicate]; exact hi), List.getElem_replicate, List.take_zero]
      simp)
    rw [List.take_zero, List.map_nil] at h
    exact h
  · rw [if_neg hm, if_neg hm]
end Go.Proofs.Ytjhdjkanepdgiaa.Refs
