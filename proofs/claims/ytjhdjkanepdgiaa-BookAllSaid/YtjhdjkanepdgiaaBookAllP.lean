/- One booking that is opened, shipped piece by piece, and closed: plain laws. No program in sight. -/
import Derived.Test.YtjhdjkanepdgiaaBookOpenP
import Derived.Test.YtjhdjkanepdgiaaBookSame
namespace Go.Proofs.Ytjhdjkanepdgiaa.AllB
open Go Go.RowKit Go.Proofs.Ytjhdjkanepdgiaa.Pa Go.Proofs.Ytjhdjkanepdgiaa.Pb Go.Proofs.YtjhdjkanepdgiaaW.PrintWords Go.Proofs.Ytjhdjkanepdgiaa.Book Go.Proofs.Ytjhdjkanepdgiaa.Ext
set_option linter.unusedVariables false

def left (l : List Line) (G : Nat → Int) : List Line := l.mapIdx (fun i y => { y with f2 := y.f2 - G i })
theorem left_length (l : List Line) (G : Nat → Int) : (left l G).length = l.length := List.length_mapIdx
theorem left_get {l : List Line} {G : Nat → Int} {i : Nat} (hi : i < l.length) : (left l G)[i]'(by rw [left_length]; exact hi) = { l[i] with f2 := l[i].f2 - G i } := by
  unfold left; rw [List.getElem_mapIdx]
theorem left_zero (l : List Line) : left l (fun _ => 0) = l := by
  apply List.ext_getElem (left_length _ _)
  intro i h1 h2
  rw [left_get h2, Int.sub_zero]
def upd (G : Nat → Int) (q : Nat) (n : Int) : Nat → Int := fun i => if i = q then G i + n else G i
theorem left_upd {l : List Line} {G : Nat → Int} {q : Nat} (n : Int) (hq : q < l.length) : (left l G).set q { l[q] with f2 := l[q].f2 - G q - n } = left l (upd G q n) := by
  apply List.ext_getElem
  · rw [List.length_set, left_length, left_length]
  · intro i h1 h2
    rw [List.length_set, left_length] at h1
    rw [List.getElem_set, left_get h1, left_get h1]
    unfold upd
    by_cases e : q = i
    · subst e; rw [if_pos rfl, if_pos rfl, Int.sub_sub]
    · rw [if_neg e, if_neg (fun h => e h.symm)]
def St (x : Booking) (G : Nat → Int) (m : List Booking) : Prop :=
  (∀ i (hi : i < x.f2.length), 0 ≤ G i ∧ G i ≤ x.f2[i].f2) ∧ m = (if (left x.f2 G).any openL = true then [⟨x.f0, x.f1, left x.f2 G⟩] else [])
theorem one_line {x : Booking} (h : oneX x = true) : ∀ i (hi : i < x.f2.length), lineB x.f2[i] = true := fun i hi => by
  unfold oneX oneB at h
  rw [Bool.and_eq_true, Bool.and_eq_true, Bool.not_eq_true', List.any_eq_false] at h
  have := h.2.1 _ (List.getElem_mem hi)
  simpa [oddL] using this
theorem one_open {x : Booking} (h : oneX x = true) : x.f2.any openL = true := by
  unfold oneX oneB at h
  rw [Bool.and_eq_true, Bool.and_eq_true] at h
  exact h.2.2
theorem st_start {x : Booking} (h : oneX x = true) : St x (fun _ => 0) [x] := by
  refine ⟨fun i hi => ⟨Int.le_refl _, ?_⟩, ?_⟩
  · have := one_line h i hi
    simp only [lineB, decide_eq_true_eq] at this
    exact this.2.2.2.2
  · rw [left_zero, if_pos (one_open h)]
theorem left_one {x : Booking} {G : Nat → Int} (h : oneX x = true) (hG : ∀ i (hi : i < x.f2.length), 0 ≤ G i ∧ G i ≤ x.f2[i].f2) (ho : (left x.f2 G).any openL = true) : oneX ⟨x.f0, x.f1, left x.f2 G⟩ = true := by
  have hl := one_line h
  unfold oneX oneB at h ⊢
  rw [Bool.and_eq_true, Bool.and_eq_true, decide_eq_true_eq] at h ⊢
  obtain ⟨⟨a1, a2, a3, a4, a5⟩, a6, a7⟩ := h
  refine ⟨⟨a1, a2, a3, by rw [left_length]; exact a4, by rw [left_length]; exact a5⟩, ?_, ho⟩
  rw [Bool.not_eq_true', List.any_eq_false]
  intro y hy
  obtain ⟨i, hi, rfl⟩ := List.getElem_of_mem hy
  rw [left_length] at hi
  have h1 := hl i hi
  have h2 := hG i hi
  rw [left_get hi]
  simp only [lineB, decide_eq_true_eq] at h1
  simp [oddL, lineB]
  omega
theorem may_one {b : Booking} (h : oneX b = true) : MayL [b] := ⟨fun y hy => by rw [List.mem_singleton.1 hy]; exact h, List.pairwise_singleton _ _, by simp⟩
theorem may_nil : MayL [] := ⟨fun _ h => by (cases h), List.Pairwise.nil, by simp⟩
theorem found_nil (id : Int) : foundP [] id = ([], 0, 3) := by
  unfold foundP
  rw [if_pos (mayB_iff.2 may_nil), show idxB id [] = -1 from rfl]; rfl
theorem idx_one (b : Booking) : idxB b.f0 [b] = 0 := by
  unfold idxB
  have : isB b.f0 b = true := by simp [isB]
  rw [if_pos (by simp [this])]
  simp [List.findIdx_cons, this]
theorem found_one {b : Booking} (h : oneX b = true) : foundP [b] b.f0 = ([b], 0, 0) := by
  unfold foundP
  rw [if_pos (mayB_iff.2 (may_one h)), idx_one]; rfl
theorem rd_one (b : Booking) : rd_T25 [b] 0 = b := rfl
theorem st_ship {x : Booking} {G : Nat → Int} {m : List Booking} {line n : Int} (hx : oneX x = true) (hS : St x G m) (h : (shipP m x.f0 line n).2.2 = 0) :
    ∃ q : Nat, line = (q : Int) ∧ ∃ hq : q < x.f2.length, q < 4 ∧ 0 < n ∧ 0 ≤ G q ∧ G q + n ≤ x.f2[q].f2 ∧ (shipP m x.f0 line n).2.1 = ⟨x.f2[q].f0, x.f2[q].f1, n⟩ ∧ St x (upd G q n) (shipP m x.f0 line n).1 := by
  obtain ⟨hG, hm⟩ := hS
  by_cases ho : (left x.f2 G).any openL = true
  · rw [if_pos ho] at hm
    have hb := left_one hx hG ho
    have hf : foundP m x.f0 = (m, 0, 0) := by rw [hm]; exact found_one hb
    have hi : idxB x.f0 m = 0 := by rw [hm]; exact idx_one ⟨x.f0, x.f1, left x.f2 G⟩
    have hr : rd_T25 m 0 = ⟨x.f0, x.f1, left x.f2 G⟩ := by rw [hm]; rfl
    have h4 := one_len hx
    unfold shipP at h ⊢
    rw [if_pos (by rw [hf])] at h ⊢
    rw [hi, hr] at h ⊢
    dsimp only at h ⊢
    by_cases h1 : line < 0 ∨ ((left x.f2 G).length : Int) ≤ line
    · rw [if_pos h1] at h; exact absurd h (by decide)
    · rw [if_neg h1] at h ⊢
      by_cases h2 : n ≤ 0
      · rw [if_pos h2] at h; exact absurd h (by decide)
      · rw [if_neg h2] at h ⊢
        rw [left_length] at h1
        obtain ⟨q, rfl⟩ : ∃ q : Nat, line = (q : Int) := ⟨line.toNat, by omega⟩
        have hq : q < x.f2.length := by omega
        have hrl : rd_T33 (left x.f2 G) (q : Int) = { x.f2[q] with f2 := x.f2[q].f2 - G q } := by rw [rdL (by rw [left_length]; exact hq), left_get hq]
        rw [hrl] at h ⊢
        dsimp only at h ⊢
        by_cases h3 : x.f2[q].f2 - G q < n
        · rw [if_pos h3] at h; exact absurd h (by decide)
        · rw [if_neg h3] at h ⊢
          have hGq := hG q hq
          refine ⟨q, rfl, hq, by omega, by omega, hGq.1, by omega, rfl, fun i hi => ?_, ?_⟩
          · unfold upd
            by_cases e : i = q
            · subst e; rw [if_pos rfl]; omega
            · rw [if_neg e]; exact hG i hi
          · rw [Int.toNat_natCast, left_upd n hq, hm]
            rfl
  · rw [if_neg ho] at hm
    unfold shipP at h
    rw [hm, found_nil, if_neg (show ¬ ((3 : Int) = 0) by decide)] at h
    exact absurd h (by decide)
theorem st_close {x : Booking} {G : Nat → Int} {m : List Booking} (hx : oneX x = true) (hS : St x G m) : closeP m x.f0 = if (left x.f2 G).any openL = true then ([], (left x.f2 G).filter openL, 0) else ([], [], 3) := by
  obtain ⟨hG, hm⟩ := hS
  unfold closeP
  by_cases ho : (left x.f2 G).any openL = true
  · rw [if_pos ho] at hm ⊢
    have hf : foundP m x.f0 = (m, 0, 0) := by rw [hm]; exact found_one (left_one hx hG ho)
    have hi : idxB x.f0 m = 0 := by rw [hm]; exact idx_one ⟨x.f0, x.f1, left x.f2 G⟩
    rw [if_pos (by rw [hf]), hi, hm]; rfl
  · rw [if_neg ho] at hm ⊢
    rw [hm, found_nil]; rfl
theorem st_len {x : Booking} {G : Nat → Int} {m : List Booking} (hS : St x G m) : m.length ≤ 1 ∧ ((left x.f2 G).filter openL = [] → m = []) ∧ ((left x.f2 G).filter openL ≠ [] → (left x.f2 G).any openL = true) := by
  obtain ⟨hG, hm⟩ := hS
  by_cases ho : (left x.f2 G).any openL = true
  · refine ⟨by rw [hm, if_pos ho]; simp, fun h => ?_, fun _ => ho⟩
    rw [List.filter_eq_nil_iff] at h
    obtain ⟨y, hy, h2⟩ := List.any_eq_true.1 ho
    exact absurd h2 (h y hy)
  · refine ⟨by rw [hm, if_neg ho]; simp, fun _ => by rw [hm, if_neg ho], fun h => ?_⟩
    exfalso; apply h
    rw [List.filter_eq_nil_iff]
    intro y hy h2
    exact ho (List.any_eq_true.2 ⟨y, hy, h2⟩)
theorem st_lim {x : Booking} {G : Nat → Int} {m : List Booking} (hS : St x G m) (hq : ∀ y ∈ x.f2, y.f2 < 9223372036854775808) : Lim m := by
  obtain ⟨hG, hm⟩ := hS
  by_cases ho : (left x.f2 G).any openL = true
  · rw [hm, if_pos ho]
    refine ⟨by simp, fun b hb y hy => ?_⟩
    rw [List.mem_singleton.1 hb] at hy
    obtain ⟨i, hi, rfl⟩ := List.getElem_of_mem hy
    have hi2 : i < x.f2.length := by rw [left_length] at hi; exact hi
    rw [left_get hi2]
    have h1 := hq _ (List.getElem_mem hi2)
    have h2 := hG i hi2
    show x.f2[i].f2 - G i < _
    omega
  · rw [hm, if_neg ho]
    exact ⟨by simp, fun b hb => by cases hb⟩
theorem open_nil (x : Booking) : openP [] x = if oneX x = true then ([x], 0) else ([], 1) := by
  unfold openP
  rw [if_pos (mayB_iff.2 may_nil)]
  by_cases h : oneX x = true
  · rw [if_pos h, if_pos h]; rfl
  · rw [if_neg h, if_neg h]
/-- What is wanted, line by line. -/
theorem want_step {l : List Line} {G : Nat → Int} {i : Nat} (hi : i < l.length) : ((left l G).take (i + 1)).filter openL = ((left l G).take i).filter openL ++ (if 0 < l[i].f2 - G i then [⟨l[i].f0, l[i].f1, l[i].f2 - G i⟩] else []) := by
  rw [List.take_succ_eq_append_getElem (by rw [left_length]; exact hi), List.filter_append, left_get hi]
  congr 1
  by_cases h : 0 < l[i].f2 - G i
  · rw [if_pos h, List.filter_cons_of_pos (by simpa [openL] using h)]; rfl
  · rw [if_neg h, List.filter_cons_of_neg (by simpa [openL] using h)]; rfl
theorem want_all {l : List Line} {G : Nat → Int} {i : Nat} (hi : l.length ≤ i) : ((left l G).take i).filter openL = (left l G).filter openL := by
  rw [List.take_of_length_le (by rw [left_length]; exact hi)]
end Go.Proofs.Ytjhdjkanepdgiaa.AllB
