/- Those whose time has come are told once each. No conditions beside those that each lemma states. -/
import Derived.Test.YtjhdjkanepdgiaaPc2
import Derived.Test.YtjhdjkanepdgiaaBookExt3
namespace Go.Proofs.Ytjhdjkanepdgiaa.Pure
open Go Go.RowKit Go.Proofs.Ytjhdjkanepdgiaa.Pa Go.Proofs.Ytjhdjkanepdgiaa.Pb Go.Proofs.Ytjhdjkanepdgiaa.Pc Go.Proofs.YtjhdjkanepdgiaaW.PrintWords Go.Proofs.YtjhdjkanepdgiaaW.PrintLast Go.Proofs.Ytjhdjkanepdgiaa.Book Go.Proofs.Ytjhdjkanepdgiaa.Ext Go.Proofs.Ytjhdjkanepdgiaa.Over Go.Proofs.Ytjhdjkanepdgiaa.Due
set_option linter.unusedVariables false

theorem awake_f {k : Nat} (hk : 40 ≤ k) : quartermasterlaw18_awake.f k = some true := by
  obtain ⟨d, rfl⟩ : ∃ d, k = 40 + d := ⟨k - 40, by omega⟩
  clear hk
  induction d with
  | zero => decide +kernel
  | succ d ih => exact quartermasterlaw18_awake.mono _ _ ih
def fewB (l : List Booking) (m : Int) : Bool := decide ((l.length : Int) ≤ m) && l.all (fun x => decide (x.f2.length ≤ 20))
theorem few_l {l : List Booking} (hl : l.length ≤ 999999999) (d : Nat) : ∀ (k i : Nat), i + d = l.length → d < k → quartermasterref18_Few.l0 k l (i : Int) = some ((l.drop i).all (fun x => decide (x.f2.length ≤ 20))) := by
  induction d with
  | zero =>
    intro k i h hk
    obtain ⟨m, rfl⟩ : ∃ m, k = m + 1 := ⟨k - 1, by omega⟩
    unfold quartermasterref18_Few.l0
    rw [if_neg (by omega), List.drop_of_length_le (by omega)]; rfl
  | succ d ih =>
    intro k i h hk
    obtain ⟨m, rfl⟩ : ∃ m, k = m + 1 := ⟨k - 1, by omega⟩
    have hi : i < l.length := by omega
    unfold quartermasterref18_Few.l0
    rw [if_pos (by omega), if_pos (by omega), rdB hi, wi (by omega), List.drop_eq_getElem_cons hi, List.all_cons]
    by_cases h2 : (l[i].f2.length : Int) > 20
    · rw [if_pos h2, decide_eq_false (by omega)]; rfl
    · rw [if_neg h2, decide_eq_true (by omega), Bool.true_and]
      exact ih m (i + 1) (by omega) (by omega)
theorem few_f {l : List Booking} {k : Nat} {m : Int} (hm : m ≤ 999999999) (hk : l.length < k) : quartermasterref18_Few.f k l m = some (fewB l m) := by
  unfold quartermasterref18_Few.f fewB
  by_cases h : (l.length : Int) > m
  · rw [if_pos h, decide_eq_false (by omega)]; rfl
  · rw [if_neg h, decide_eq_true (by omega), Bool.true_and]
    exact few_l (by omega) l.length k 0 (by omega) hk
theorem few_len {l : List Booking} {m : Int} (h : fewB l m = true) : (l.length : Int) ≤ m := by
  unfold fewB at h; rw [Bool.and_eq_true] at h; exact of_decide_eq_true h.1
theorem few_lines {l : List Booking} {m : Int} (h : fewB l m = true) : ∀ x ∈ l, x.f2.length ≤ 20 := by
  unfold fewB at h; rw [Bool.and_eq_true, List.all_eq_true] at h; exact fun x hx => of_decide_eq_true (h.2 x hx)
theorem few_big {l : List Booking} {m : Int} {k : Nat} (h : (l.length : Int) > m) : quartermasterref18_Few.f k l m = some false := by
  unfold quartermasterref18_Few.f
  rw [if_pos h]

/-- What Find tells. -/
def findP (l : List Booking) (id : Int) : Int × Int × List Line × Bool :=
  if mayB l = true then (if idxB id l < 0 then (0, 0, [], false) else ((rd_T25 l (idxB id l)).f0, (rd_T25 l (idxB id l)).f1, (rd_T25 l (idxB id l)).f2, true)) else (0, 0, [], false)
theorem find_f {k : Nat} {l : List Booking} (id : Int) (hl : l.length ≤ 999999999) (hk : l.length < k) : book_Find.f k l id = some (findP l id) := by
  unfold book_Find.f findP book_at.f
  rw [Option.bind_some, may_f (by omega) hk, Option.bind_some]
  by_cases hm : mayB l = true
  · rw [if_pos hm, if_pos hm]
    rcases idx_range id l with h | ⟨i, h, hi, _⟩
    · rw [h, if_pos (by omega), if_pos (by omega)]
    · rw [h, if_neg (by omega), if_pos (by omega), if_pos (by omega), rdB hi, own_f _ ((mayB_iff.1 hm).len _ (List.getElem_mem hi)), if_neg (by omega)]; rfl
  · rw [if_neg hm, if_neg hm]
theorem ids_inj {l : List Booking} (h : MayL l) {x y : Booking} (hx : x ∈ l) (hy : y ∈ l) (he : x.f0 = y.f0) : x = y := by
  obtain ⟨i, hi, rfl⟩ := List.getElem_of_mem hx
  obtain ⟨j, hj, rfl⟩ := List.getElem_of_mem hy
  have hp := List.pairwise_iff_getElem.1 h.2.1
  by_cases hij : i = j
  · subst hij; rfl
  · rcases Nat.lt_or_gt_of_ne hij with h1 | h1
    · have := hp i j hi hj h1; omega
    · have := hp j i hj hi h1; omega
theorem idx_mem {l : List Booking} (h : MayL l) {x : Booking} (hx : x ∈ l) : ∃ i : Nat, idxB x.f0 l = (i : Int) ∧ ∃ hi : i < l.length, l[i] = x := by
  rcases idx_range x.f0 l with h1 | ⟨i, h1, hi, h2⟩
  · exact absurd h1 (by
      unfold idxB
      rw [if_pos]
      · omega
      · exact List.any_eq_true.2 ⟨x, hx, by simp [isB]⟩)
  · have : isB x.f0 l[i] = true := by
      have := @List.findIdx_getElem _ (isB x.f0) l (by rw [h2]; exact hi)
      simpa only [h2] using this
    exact ⟨i, h1, hi, ids_inj h (List.getElem_mem hi) hx (by simpa [isB] using this)⟩
theorem find_mem {l : List Booking} (h : MayL l) {x : Booking} (hx : x ∈ l) : findP l x.f0 = (x.f0, x.f1, x.f2, true) := by
  obtain ⟨i, h1, hi, h2⟩ := idx_mem h hx
  unfold findP
  rw [if_pos (mayB_iff.2 h), h1, if_neg (by omega), rdB hi, h2]

theorem overS_spec (l : List Booking) : Sorted (overS l) ∧ (overS l).Perm (l.map dueOf) := by
  suffices h : ∀ (l : List Booking) (s : List D), Sorted s → Sorted (l.foldl (fun s x => ins (dueOf x) s) s) ∧ (l.foldl (fun s x => ins (dueOf x) s) s).Perm (l.map dueOf ++ s) by
    have := h l [] List.Pairwise.nil
    rwa [List.append_nil] at this
  intro l
  induction l with
  | nil => intro s hs; exact ⟨hs, List.Perm.refl _⟩
  | cons x r ih =>
    intro s hs
    obtain ⟨h1, h2⟩ := ih (ins (dueOf x) s) (ins_sorted _ _ hs)
    rw [List.foldl_cons]
    refine ⟨h1, h2.trans ?_⟩
    rw [List.map_cons, List.cons_append]
    exact ((ins_perm (dueOf x) s).append_left _).trans List.perm_middle
theorem tw_filter (now : Int) : ∀ S : List D, Sorted S → S.takeWhile (comeB now) = S.filter (comeB now)
  | [], _ => rfl
  | a :: t, h => by
    have ht := List.pairwise_cons.1 h
    by_cases hc : comeB now a = true
    · rw [List.takeWhile_cons_of_pos hc, List.filter_cons_of_pos hc, tw_filter now t ht.2]
    · rw [List.takeWhile_cons_of_neg hc, List.filter_cons_of_neg hc]
      symm
      rw [List.filter_eq_nil_iff]
      intro b hb hcb
      have h1 := ht.1 b hb
      rw [lt_false] at h1
      simp only [comeB, decide_eq_true_eq] at hc hcb
      omega
def cnt (now : Int) (l : List Booking) : Nat := (l.filter (fun x => decide (x.f1 ≤ now))).length
theorem over_length (l : List Booking) (now : Int) : ((overS l).takeWhile (comeB now)).length = cnt now l := by
  obtain ⟨h1, h2⟩ := overS_spec l
  rw [tw_filter now _ h1, (h2.filter _).length_eq, List.filter_map, List.length_map]
  rfl
theorem over_strict {l : List Booking} (h : MayL l) (now : Int) : ((overS l).takeWhile (comeB now)).Pairwise (fun a b => lt a b = true) := by
  obtain ⟨h1, h2⟩ := overS_spec l
  have hn : (overS l).Pairwise (fun a b => a.f1 ≠ b.f1) := by
    refine h2.symm.pairwise ?_ (fun h e => h e.symm)
    rw [List.pairwise_map]
    exact h.2.1.imp (fun h => by show _ ≠ _; simp only [dueOf]; omega)
  have : (overS l).Pairwise (fun a b => lt a b = true) := (h1.and hn).imp (fun {a b} h => by
    have h1 := h.1
    rw [lt_false] at h1
    rw [lt_iff]
    have := h.2
    omega)
  exact this.sublist (List.takeWhile_sublist _)
theorem over_mem {l : List Booking} {now : Int} {t : D} (h : t ∈ (overS l).takeWhile (comeB now)) : t.f0 ≤ now ∧ ∃ x ∈ l, x.f1 = t.f0 ∧ x.f0 = t.f1 := by
  obtain ⟨h1, h2⟩ := overS_spec l
  have hs : t ∈ overS l := (List.takeWhile_sublist _).subset h
  rw [tw_filter now _ h1, List.mem_filter] at h
  obtain ⟨x, hx, rfl⟩ := List.mem_map.1 ((h2.mem_iff).1 hs)
  exact ⟨by simpa [comeB] using h.2, x, hx, rfl, rfl⟩
theorem over_l0 {l : List Booking} {now : Int} {o : List Int} (hl : l.length ≤ 12) (d : Nat) : ∀ (k i m : Nat), i + d = l.length → m ≤ i → quartermasterlaw18_BookOver.l0 (k + d + 1) l now o (m : Int) (i : Int) = quartermasterlaw18_BookOver.l1 k l now o ((m + cnt now (l.drop i) : Nat) : Int) 0 0 0 [] := by
  induction d with
  | zero =>
    intro k i m h hm
    rw [quartermasterlaw18_BookOver.l0, if_neg (by omega), List.drop_of_length_le (by omega)]; rfl
  | succ d ih =>
    intro k i m h hm
    have hi : i < l.length := by omega
    rw [show k + (d + 1) + 1 = (k + d + 1) + 1 from rfl, quartermasterlaw18_BookOver.l0, if_pos (by omega), if_pos (by omega), rdB hi, wi (by omega), wi (by omega), List.drop_eq_getElem_cons hi]
    by_cases h2 : l[i].f1 ≤ now
    · rw [if_pos h2, ih k (i + 1) (m + 1) (by omega) (by omega)]
      have : cnt now (l[i] :: l.drop (i + 1)) = cnt now (l.drop (i + 1)) + 1 := by unfold cnt; rw [List.filter_cons_of_pos (by simpa using h2), List.length_cons]
      rw [this, show m + 1 + cnt now (l.drop (i + 1)) = m + (cnt now (l.drop (i + 1)) + 1) by omega]
    · rw [if_neg h2, ih k (i + 1) m (by omega) (by omega)]
      have : cnt now (l[i] :: l.drop (i + 1)) = cnt now (l.drop (i + 1)) := by unfold cnt; rw [List.filter_cons_of_neg (by simpa using h2)]
      rw [this]
theorem over_l1 {l : List Booking} {now : Int} {T : List D} (hM : MayL l) (hT : T.length ≤ 12) (hs : T.Pairwise (fun a b => lt a b = true)) (hm : ∀ t ∈ T, t.f0 ≤ now ∧ ∃ x ∈ l, x.f1 = t.f0 ∧ x.f0 = t.f1) (m : Int) (d : Nat) :
    ∀ (k j : Nat) (a b : Int) (c : List Line), j + d = T.length → d + 13 < k → (∀ h : 0 < j, ∀ hj : j - 1 < T.length, a = T[j - 1].f1 ∧ b = T[j - 1].f0) → quartermasterlaw18_BookOver.l1 k l now (T.map (·.f1)) m (j : Int) a b c = some ((T.length : Int) == m) := by
  induction d with
  | zero =>
    intro k j a b c h hk hab
    obtain ⟨q, rfl⟩ : ∃ q, k = q + 1 := ⟨k - 1, by omega⟩
    rw [quartermasterlaw18_BookOver.l1, if_neg (by rw [List.length_map]; omega), List.length_map]
  | succ d ih =>
    intro k j a b c h hk hab
    obtain ⟨q, rfl⟩ : ∃ q, k = q + 1 := ⟨k - 1, by omega⟩
    have hj : j < T.length := by omega
    have hl8 := hM.2.2
    have hrd : rd (T.map (·.f1)) (j : Int) = T[j].f1 := by simp [rd, hj]
    obtain ⟨h1, x, hx, e1, e2⟩ := hm T[j] (List.getElem_mem hj)
    rw [quartermasterlaw18_BookOver.l1, if_pos (by rw [List.length_map]; omega), if_pos (by omega), hrd, ← e2, find_f _ (by omega) (by omega), find_mem hM hx, Option.bind_some]
    simp only
    have hnext := ih q (j + 1) x.f0 x.f1 x.f2 (by omega) (by omega) (fun _ _ => ⟨e2, e1⟩)
    rw [if_pos trivial, if_neg (by omega), wi (by omega), hnext]
    by_cases h0 : (j : Int) > 0
    · rw [if_pos h0]
      have hj1 : j - 1 < T.length := by omega
      obtain ⟨rfl, rfl⟩ := hab (by omega) hj1
      have hst := List.pairwise_iff_getElem.1 hs (j - 1) j hj1 hj (by omega)
      rw [lt_iff] at hst
      rw [if_neg (by omega)]
      by_cases h4 : x.f1 = T[j - 1].f0
      · rw [if_pos h4, if_neg (by omega)]
      · rw [if_neg h4]
    · rw [if_neg h0]
theorem BookOver : quartermasterlaw18_BookOver.Pure := by
  intro l now hl hq hw
  by_cases h12 : (l.length : Int) > 12
  · refine ⟨41, ?_⟩
    unfold quartermasterlaw18_BookOver.f
    rw [awake_f (by omega), few_big h12]
    rfl
  · refine ⟨100, ?_⟩
    unfold quartermasterlaw18_BookOver.f
    rw [awake_f (by omega), few_f (by omega) (by omega), Option.bind_some, Option.bind_some, if_pos rfl]
    have hj : ∀ b, quartermasterlaw18_BookOver.j0 100 l now true b = if b = true then some true else (book_Over.f l now).bind fun t => quartermasterlaw18_BookOver.l0 99 l now t 0 0 := fun b => by rw [quartermasterlaw18_BookOver.j0]
    rw [hj, may_f (by omega) (by omega)]
    by_cases hf : fewB l 12 = true
    · rw [if_pos hf, Option.bind_some, hj]
      by_cases hm : mayB l = true
      · rw [hm, if_neg (by decide)]
        have hM := mayB_iff.1 hm
        have hl8 := hM.2.2
        unfold book_Over.f overP
        rw [if_pos (by omega), if_pos hm, Option.bind_some]
        have h0 := over_l0 (l := l) (now := now) (o := ((overS l).takeWhile (comeB now)).map (·.f1)) (by omega) l.length (98 - l.length) 0 0 (by omega) (by omega)
        rw [show 98 - l.length + l.length + 1 = 99 by omega, List.drop_zero, Nat.zero_add] at h0
        have hlen := over_length l now
        have hle : cnt now l ≤ l.length := List.length_filter_le _ _
        have h1 := over_l1 (now := now) hM (by omega) (over_strict hM now) (fun t ht => over_mem ht) ((cnt now l : Nat) : Int) (cnt now l) (98 - l.length) 0 0 0 [] (by omega) (by omega) (fun h => absurd h (by omega))
        refine h0.trans (h1.trans ?_)
        rw [hlen]; simp
      · rw [show mayB l = false by simpa using hm]; rfl
    · rw [if_neg hf]; rfl
end Go.Proofs.Ytjhdjkanepdgiaa.Pure
