/- The reference's Decode and Told are the program's: plain laws. No program in sight. -/
import Derived.Test.YtgdelfckhcgnhaaReqRTold
import Derived.Test.YtgdelfckhcgnhaaReqExt
namespace Go.Proofs.Ytgdelfckhcgnhaa.Code
open Go.RowKit Go.Proofs.Ytgdelfckhcgnhaa.Pa Go.Proofs.YtgdelfckhcgnhaaW.PrintWords Go.Proofs.Ytgdelfckhcgnhaa.Back
set_option linter.unusedVariables false

theorem getN_true {s : Bool × List Int} (h : s.1 = true) : (getN s).1 = true := by unfold getN; rw [h]; rfl
theorem getI_true {s : Bool × List Int} (h : s.1 = true) : (getI s).1 = true := by unfold getI; rw [h]; rfl
theorem getM_true {s : Bool × List Int} (M : Int) (h : s.1 = true) : (getM M s).1 = true := by unfold getM; rw [getN_true h]; rfl
theorem getLine1_true {s : Bool × List Int} (h : s.1 = true) : (getLine1 s).1.1 = true := getN_true (getN_true (getN_true h))
theorem getLineN_true {s : Bool × List Int} (h : s.1 = true) : ∀ j, (getLineN s j).1.1 = true
  | 0 => h
  | j + 1 => getLine1_true (getLineN_true h j)
theorem getLines_true {s : Bool × List Int} (h : s.1 = true) : (getLines s).1.1 = true := getLineN_true (getM_true 4 h) _
theorem getEntry1_true {s : Bool × List Int} (h : s.1 = true) : (getEntry1 s).1.1 = true := getI_true (getN_true (getN_true (getN_true h)))
theorem getEntryN_true {s : Bool × List Int} (h : s.1 = true) : ∀ j, (getEntryN s j).1.1 = true
  | 0 => h
  | j + 1 => getEntry1_true (getEntryN_true h j)
theorem getEntrys_true {s : Bool × List Int} (h : s.1 = true) : (getEntrys s).1.1 = true := getEntryN_true (getM_true 8 h) _
theorem pair_false {s : Bool × List Int} (h : s.1 = false) : s = (false, s.2) := by cases s; simp only at h; rw [h]
theorem getN_ok {l : List Int} (h : (getNum l).e = 0) : getN (false, l) = (false, (getNum l).left) := by unfold getN; simp only [h]; rfl
theorem getN_bad {s : Bool × List Int} (h : (getNum s.2).e ≠ 0) : (getN s).1 = true := by unfold getN; simp [h]
theorem getI_ok {l : List Int} (h : (getInt l).e = 0) : getI (false, l) = (false, (getInt l).left) := by unfold getI; simp only [h]; rfl
theorem getI_bad {s : Bool × List Int} (h : (getInt s.2).e ≠ 0) : (getI s).1 = true := by unfold getI; simp [h]
theorem nums1 (bs : List Int) : numsN bs 1 = if (getNum bs).e = 0 then some ([(getNum bs).v], (getNum bs).left) else none := by simp [numsN]
theorem nums3 (bs : List Int) : numsN bs 3 = if (getLine1 (false, bs)).1.1 = false then some ([(getLine1 (false, bs)).2.f0, (getLine1 (false, bs)).2.f1, (getLine1 (false, bs)).2.f2], (getLine1 (false, bs)).1.2) else none := by
  unfold getLine1
  by_cases h0 : (getNum bs).e = 0
  · rw [getN_ok h0]
    by_cases h1 : (getNum (getNum bs).left).e = 0
    · rw [getN_ok h1]
      by_cases h2 : (getNum (getNum (getNum bs).left).left).e = 0
      · rw [getN_ok h2]
        simp [numsN, h0, h1, h2]
      · rw [if_neg (by rw [getN_bad h2]; decide)]
        simp [numsN, h0, h1, h2]
    · rw [if_neg (by rw [getN_true (getN_bad (s := (false, (getNum bs).left)) h1)]; decide)]
      simp [numsN, h0, h1]
  · rw [if_neg (by rw [getN_true (getN_true (getN_bad (s := (false, bs)) h0))]; decide)]
    simp [numsN, h0]
theorem rlines_is (l : List Int) : ∀ n, rlinesN l n = if (getLineN (false, l) n).1.1 = false then some ((getLineN (false, l) n).2, (getLineN (false, l) n).1.2) else none
  | 0 => by simp [rlinesN, getLineN]
  | n + 1 => by
    have ih := rlines_is l n
    by_cases h : (getLineN (false, l) n).1.1 = false
    · rw [if_pos h] at ih
      rw [rlinesN_succ ih, nums3]
      have e : getLineN (false, l) (n + 1) = ((getLine1 (getLineN (false, l) n).1).1, (getLineN (false, l) n).2 ++ [(getLine1 (getLineN (false, l) n).1).2]) := rfl
      rw [e, pair_false h]
      simp only
      by_cases h2 : (getLine1 (false, (getLineN (false, l) n).1.2)).1.1 = false
      · rw [if_pos h2, if_pos h2]; rfl
      · rw [if_neg h2, if_neg h2]
    · rw [if_neg h] at ih
      have ht : (getLineN (false, l) (n + 1)).1.1 = true := getLine1_true (by simpa using h)
      rw [rlinesN_none ih (Nat.le_succ n), if_neg (by rw [ht]; decide)]
theorem rread_is (l : List Int) : rread l = if (getLines (false, l)).1.1 = false then some ((getLines (false, l)).2, (getLines (false, l)).1.2) else none := by
  unfold rread getLines
  rw [nums1]
  by_cases h0 : (getNum l).e = 0
  · rw [if_pos h0]
    simp only [List.getD_cons_zero]
    by_cases h4 : 4 < (getNum l).v
    · rw [if_pos h4, if_neg]
      have : (getM 4 (false, l)).1 = true := by unfold getM; simp [h4]
      rw [getLineN_true this]; decide
    · have hm : getM 4 (false, l) = (false, (getNum l).left) ∧ manyOf 4 (false, l) = (getNum l).v := by
        unfold getM manyOf
        rw [getN_ok h0]
        exact ⟨by simp only; rw [decide_eq_false h4]; rfl, if_neg h4⟩
      rw [if_neg h4, hm.1, hm.2, rlines_is]
  · rw [if_neg h0, if_neg]
    have : (getM 4 (false, l)).1 = true := by unfold getM; rw [getN_bad (s := (false, l)) h0]; rfl
    rw [getLineN_true this]; decide
theorem rent_is (l : List Int) : ∀ n, rentN l n = if (getEntryN (false, l) n).1.1 = false then some ((getEntryN (false, l) n).2, (getEntryN (false, l) n).1.2) else none
  | 0 => by simp [rentN, getEntryN]
  | n + 1 => by
    have ih := rent_is l n
    by_cases h : (getEntryN (false, l) n).1.1 = false
    · rw [if_pos h] at ih
      rw [rentN_succ ih, nums3]
      have e : getEntryN (false, l) (n + 1) = ((getEntry1 (getEntryN (false, l) n).1).1, (getEntryN (false, l) n).2 ++ [(getEntry1 (getEntryN (false, l) n).1).2]) := rfl
      rw [e, pair_false h]
      generalize (getEntryN (false, l) n).1.2 = r
      generalize (getEntryN (false, l) n).2 = K
      simp only
      have hE : getEntry1 (false, r) = (getI (getLine1 (false, r)).1, ⟨(getLine1 (false, r)).2.f0, (getLine1 (false, r)).2.f1, (getLine1 (false, r)).2.f2, (getInt (getLine1 (false, r)).1.2).v⟩) := rfl
      rw [hE]
      by_cases h2 : (getLine1 (false, r)).1.1 = false
      · rw [if_pos h2, pair_false h2]
        simp only [List.getD_cons_zero, List.getD_cons_succ]
        generalize (getLine1 (false, r)).1.2 = t
        by_cases h3 : (getInt t).e = 0
        · rw [if_pos h3, getI_ok h3, if_pos rfl]
        · rw [if_neg h3, if_neg (by rw [getI_bad (s := (false, t)) h3]; decide)]
      · rw [if_neg h2]
        simp only
        rw [if_neg (by rw [getI_true (by simpa using h2)]; decide)]
    · rw [if_neg h] at ih
      have ht : (getEntryN (false, l) (n + 1)).1.1 = true := getEntry1_true (by simpa using h)
      rw [rentN_none ih (Nat.le_succ n), if_neg (by rw [ht]; decide)]

/-! #### Decode -/
def opB (b : Int) : FOp := if b = 76 then .l else if b = 81 then .w 5 else .n (fldC b)
theorem op_true (o : FOp) {s : Bool × List Int} {ms : List Int} {M : List S93} (h : s.1 = true) : (Do.r.op ((s, ms), M) o).1.1.1 = true := by
  cases o with
  | n i => exact getN_true h
  | w i => exact getI_true h
  | l => exact getLines_true h
theorem ops_true : ∀ (o : List FOp) {s : Bool × List Int} {ms : List Int} {M : List S93}, s.1 = true → (Do.r.ops o ((s, ms), M)).1.1.1 = true
  | [], s, ms, M, h => h
  | x :: o, s, ms, M, h => by
    have := op_true x (ms := ms) (M := M) h
    exact ops_true o (s := (Do.r.op ((s, ms), M) x).1.1) (ms := (Do.r.op ((s, ms), M) x).1.2) (M := (Do.r.op ((s, ms), M) x).2) this
theorem step_is (ns : List Int) (L : List S93) (bs : List Int) (b : Int) : rdecStep ((ns, L), bs) b = if (Do.r.op (((false, bs), ns), L) (opB b)).1.1.1 = false then some (((Do.r.op (((false, bs), ns), L) (opB b)).1.2, (Do.r.op (((false, bs), ns), L) (opB b)).2), (Do.r.op (((false, bs), ns), L) (opB b)).1.1.2) else none := by
  unfold rdecStep opB
  by_cases h1 : b = 76
  · rw [if_pos h1, if_pos h1]
    simp only
    rw [rread_is]
    show _ = if (getLines (false, bs)).1.1 = false then some ((ns, (getLines (false, bs)).2), (getLines (false, bs)).1.2) else none
    by_cases h : (getLines (false, bs)).1.1 = false
    · rw [if_pos h, if_pos h]
    · rw [if_neg h, if_neg h]
  · rw [if_neg h1, if_neg h1]
    by_cases h2 : b = 81
    · rw [if_pos h2, if_pos h2]
      simp only
      show _ = if (getI (false, bs)).1 = false then some ((ns.set 5 (getInt bs).v, L), (getI (false, bs)).2) else none
      by_cases h : (getInt bs).e = 0
      · rw [if_pos h, getI_ok h, if_pos rfl]
      · rw [if_neg h, if_neg (by rw [getI_bad (s := (false, bs)) h]; decide)]
    · rw [if_neg h2, if_neg h2]
      simp only
      rw [nums1]
      show _ = if (getN (false, bs)).1 = false then some ((ns.set (fldC b) (getNum bs).v, L), (getN (false, bs)).2) else none
      by_cases h : (getNum bs).e = 0
      · rw [if_pos h, getN_ok h, if_pos rfl]; rfl
      · rw [if_neg h, if_neg (by rw [getN_bad (s := (false, bs)) h]; decide)]
def opsB (S : ByteArray) (j : Nat) : List FOp := (List.range j).map fun (i : Nat) => opB (bt S (i : Int))
theorem rdec_ops (S : ByteArray) (ns : List Int) (L : List S93) (bs : List Int) : ∀ j, rdecN S ((ns, L), bs) j = if (Do.r.ops (opsB S j) (((false, bs), ns), L)).1.1.1 = false then some (((Do.r.ops (opsB S j) (((false, bs), ns), L)).1.2, (Do.r.ops (opsB S j) (((false, bs), ns), L)).2), (Do.r.ops (opsB S j) (((false, bs), ns), L)).1.1.2) else none
  | 0 => by simp [rdecN, opsB, Do.ops]
  | j + 1 => by
    have ih := rdec_ops S ns L bs j
    have e : Do.r.ops (opsB S (j + 1)) (((false, bs), ns), L) = Do.r.op (Do.r.ops (opsB S j) (((false, bs), ns), L)) (opB (bt S (j : Int))) := by
      unfold opsB Do.ops
      rw [List.range_succ, List.map_append, List.foldl_append]; rfl
    rw [e]
    clear e
    generalize Do.r.ops (opsB S j) (((false, bs), ns), L) = P at ih ⊢
    obtain ⟨⟨⟨f, r⟩, ms⟩, M⟩ := P
    simp only at ih
    cases f with
    | false =>
      rw [if_pos rfl] at ih
      rw [rdecN_succ ih, step_is]
    | true =>
      rw [if_neg (by decide)] at ih
      rw [rdecN_none ih (Nat.le_succ j), if_neg (by rw [op_true _ rfl]; decide)]
theorem opsB_is {k : Int} (h : okKind k = true) : opsB (formS k) (formS k).size = opsOf k := by
  have h2 : 1 ≤ k ∧ k ≤ 10 := of_decide_eq_true h
  rcases (by omega : k = 1 ∨ k = 2 ∨ k = 3 ∨ k = 4 ∨ k = 5 ∨ k = 6 ∨ k = 7 ∨ k = 8 ∨ k = 9 ∨ k = 10) with h | h | h | h | h | h | h | h | h | h
  all_goals
    subst h
    rfl
theorem refDec_is {l : List Int} (hb : Bytes l) : refDec l = decP l := by
  have hbad : (decS l).1.1.1 = true → decP l = (([0, 0, 0, 0, 0, 0, 0, 0, 0], []), 7) := fun h => by
    unfold decP
    rw [h]; simp
  unfold refDec
  rw [nums1]
  by_cases h0 : (getNum l).e = 0
  case neg =>
    rw [if_neg h0]
    refine (hbad ?_).symm
    unfold decS
    rw [fields_ops]
    exact ops_true _ (getN_bad (s := (false, l)) h0)
  rw [if_pos h0]
  simp only [List.getD_cons_zero]
  cases hk : okKind (getNum l).v with
  | false =>
    rw [if_neg (by decide)]
    unfold decP
    rw [hk]; rfl
  | true =>
    rw [if_pos rfl]
    unfold refDec1
    rw [rdec_ops, opsB_is hk]
    have hS : decS l = Do.r.ops (opsOf (getNum l).v) (((false, (getNum l).left), [(getNum l).v, 0, 0, 0, 0, 0, 0, 0, 0]), []) := by
      unfold decS
      rw [fields_ops, getN_ok h0]
    rw [← hS]
    by_cases hf : (decS l).1.1.1 = false
    case neg =>
      rw [if_neg hf]
      exact (hbad (by simpa using hf)).symm
    rw [if_pos hf]
    simp only
    by_cases hr : (decS l).1.1.2 = []
    · rw [if_pos hr]
      have he := dec_back hb hk hf hr
      unfold decP
      rw [he, hk, hf]
      simp only
      rw [eqB_self]; rfl
    · rw [if_neg hr]
      rcases dec_two l with h2 | h2
      · exfalso
        obtain ⟨he, hel⟩ := enc_dec hb h2
        obtain ⟨n0, n1, n2, n3, n4, n5, n6, n7, n8, hs, h64, h3, h4⟩ := dec_shape hb
        rw [hs] at he hel h64
        obtain ⟨-, -, hrd⟩ := enc_reads h64 h3 (by omega) he
        have := (hrd []).2
        rw [List.append_nil, hel] at this
        exact hr (by rw [this])
      · exact (Prod.ext h2.2 h2.1).symm
/-! #### Told -/
theorem told_two (l : List Int) : (toldP l).2 = 0 ∨ ((toldP l).2 = 7 ∧ (toldP l).1 = ⟨0, 0, 0, [], []⟩) := by
  unfold toldP
  split
  · exact .inl rfl
  · exact .inr ⟨rfl, rfl⟩
theorem told_in {l : List Int} (hb : Bytes l) : (toldS l).2.In := by
  have hb0 : RB (false, l) := hb
  have b1 := hb0.getN
  have b2 := b1.getI
  have b3 := b2.getI
  have b4 := lines_fits b3
  have b5 := entries_fits b4.1
  have hlf : ∀ s : Bool × List Int, RB s → ∀ j, ∀ y ∈ (getLineN s j).2, L3 y := fun s hs j => by
    induction j with
    | zero => exact fun _ h => by cases h
    | succ j ih =>
      intro y hy
      rcases List.mem_append.1 hy with h2 | h2
      · exact ih y h2
      · rw [List.mem_singleton.1 h2]
        have h1 := (lineN_fits hs j).1
        exact ⟨(num_fits h1).1.2, (num_fits h1.getN).1.2, (num_fits h1.getN.getN).1.2⟩
  have hef : ∀ s : Bool × List Int, RB s → ∀ j, ∀ y ∈ (getEntryN s j).2, L4 y := fun s hs j => by
    induction j with
    | zero => exact fun _ h => by cases h
    | succ j ih =>
      intro y hy
      rcases List.mem_append.1 hy with h2 | h2
      · exact ih y h2
      · rw [List.mem_singleton.1 h2]
        have h1 := (entryN_fits hs j).1
        exact ⟨(num_fits h1).1.2, (num_fits h1.getN).1.2, (num_fits h1.getN.getN).1.2, (int_fits h1.getN.getN.getN).1⟩
  exact ⟨(num_fits hb).1.2, (int_fits b1).1, (int_fits b2).1, hlf _ (b3.getM 4) _, hef _ (b4.1.getM 8) _, by have := b4.2.2; show (getLines (getI (getI (getN (false, l))))).2.length ≤ 1000000; omega, by have := b5.2.2; show (getEntrys (getLines (getI (getI (getN (false, l))))).1).2.length ≤ 1000000; omega⟩
theorem refTold_is {l : List Int} (hb : Bytes l) : refTold l = toldP l := by
  have hbad : (toldS l).1.1 = true → noRep = toldP l := fun h => by
    unfold toldP
    rw [h]; simp
  have hS : toldS l = ((getEntrys (getLines (getI (getI (getN (false, l))))).1).1, ⟨(getNum l).v, (getInt (getN (false, l)).2).v, (getInt (getI (getN (false, l))).2).v, (getLines (getI (getI (getN (false, l))))).2, (getEntrys (getLines (getI (getI (getN (false, l))))).1).2⟩) := rfl
  have hlast : (toldS l).1.1 = false → (toldS l).2.c ≤ 9 → (if (toldS l).1.2 = [] then ((toldS l).2, 0) else noRep) = toldP l := fun hf hc => by
    by_cases hr : (toldS l).1.2 = []
    · rw [if_pos hr]
      have he := told_back hb hc hf hr
      unfold toldP
      rw [he, hf]
      simp only
      rw [eqB_self]; rfl
    · rw [if_neg hr]
      rcases told_two l with h2 | h2
      · exfalso
        have hq := h2
        unfold toldP at hq
        split at hq
        · rename_i hcnd
          simp only [Bool.and_eq_true, beq_iff_eq] at hcnd
          obtain ⟨hbe, _, _, hrd⟩ := ans_reads (told_in hb) hcnd.2.1
          have e1 := hcnd.2.2
          rw [eqB_iff hb hbe] at e1
          have e2 := eq_of_beq e1
          have := hrd []
          rw [List.append_nil, ← e2] at this
          exact hr (by rw [this])
        · cases hq
      · exact (Prod.ext h2.2 h2.1).symm
  unfold refTold
  rw [nums1]
  by_cases h0 : (getNum l).e = 0
  case neg =>
    rw [if_neg h0]
    exact hbad (by rw [hS]; exact getEntrys_true (getLines_true (getI_true (getI_true (getN_bad (s := (false, l)) h0)))))
  rw [if_pos h0]
  simp only [List.getD_cons_zero]
  have g0 := getN_ok h0
  rw [g0] at hS
  by_cases h9 : 9 < (getNum l).v
  · rw [if_pos h9]
    rcases told_two l with h2 | h2
    · exfalso
      unfold toldP at h2
      split at h2
      · rename_i hcnd
        simp only [Bool.and_eq_true, beq_iff_eq] at hcnd
        have := (ans_reads (told_in hb) hcnd.2.1).2.2.1
        have e : (toldS l).2.c = (getNum l).v := rfl
        omega
      · cases h2
    · exact (Prod.ext h2.2 h2.1).symm
  rw [if_neg h9]
  unfold refTold2
  obtain ⟨l0, hl0⟩ : ∃ q, q = (getNum l).left := ⟨_, rfl⟩
  rw [← hl0] at hS ⊢
  by_cases h1 : (getInt l0).e = 0
  case neg =>
    rw [if_pos (.inl h1)]
    exact hbad (by rw [hS]; exact getEntrys_true (getLines_true (getI_true (getI_bad (s := (false, l0)) h1))))
  rw [getI_ok h1] at hS
  obtain ⟨l1, hl1⟩ : ∃ q, q = (getInt l0).left := ⟨_, rfl⟩
  rw [← hl1] at hS ⊢
  by_cases h2 : (getInt l1).e = 0
  case neg =>
    rw [if_pos (.inr h2)]
    exact hbad (by rw [hS]; exact getEntrys_true (getLines_true (getI_bad (s := (false, l1)) h2)))
  rw [getI_ok h2] at hS
  rw [if_neg (by rintro (h | h); exact h h1; exact h h2)]
  obtain ⟨l2, hl2⟩ : ∃ q, q = (getInt l1).left := ⟨_, rfl⟩
  rw [← hl2] at hS ⊢
  rw [rread_is]
  by_cases h3 : (getLines (false, l2)).1.1 = false
  case neg =>
    rw [if_neg h3]
    exact hbad (by rw [hS]; exact getEntrys_true (by simpa using h3))
  rw [if_pos h3]
  simp only
  obtain ⟨L, hL⟩ : ∃ q, q = (getLines (false, l2)).2 := ⟨_, rfl⟩
  obtain ⟨r2, hr2⟩ : ∃ q, q = (getLines (false, l2)).1.2 := ⟨_, rfl⟩
  have e3 : (getLines (false, l2)).1 = (false, r2) := by rw [hr2]; exact pair_false h3
  rw [e3, ← hL] at hS
  rw [← hL, ← hr2]
  unfold refTold3
  rw [nums1]
  unfold getEntrys at hS
  by_cases h4 : (getNum r2).e = 0
  case neg =>
    rw [if_neg h4]
    refine hbad ?_
    have : (getM 8 (false, r2)).1 = true := by unfold getM; rw [getN_bad (s := (false, r2)) h4]; rfl
    rw [hS]
    exact getEntryN_true this _
  rw [if_pos h4]
  simp only [List.getD_cons_zero]
  by_cases h8 : 8 < (getNum r2).v
  · rw [if_pos h8]
    refine hbad ?_
    have : (getM 8 (false, r2)).1 = true := by unfold getM; simp [h8]
    rw [hS]
    exact getEntryN_true this _
  rw [if_neg h8]
  have hm : getM 8 (false, r2) = (false, (getNum r2).left) ∧ manyOf 8 (false, r2) = (getNum r2).v := by
    unfold getM manyOf
    rw [getN_ok h4]
    exact ⟨by simp only; rw [decide_eq_false h8]; rfl, if_neg h8⟩
  rw [hm.1, hm.2] at hS
  rw [rent_is]
  have hc : (toldS l).2.c ≤ 9 := by have e : (toldS l).2.c = (getNum l).v := rfl; omega
  by_cases h5 : (getEntryN (false, (getNum r2).left) (getNum r2).v.toNat).1.1 = false
  case neg =>
    rw [if_neg h5]
    exact hbad (by rw [hS]; simpa using h5)
  rw [if_pos h5]
  have hl := hlast (by rw [hS]; exact h5) hc
  rw [← hl, hS]
  rfl
end Go.Proofs.Ytgdelfckhcgnhaa.Code

namespace Go.Proofs.Ytgdelfckhcgnhaa.Ext
open Go Go.RowKit Go.Proofs.Ytgdelfckhcgnhaa.Pa Go.Proofs.Ytgdelfckhcgnhaa.Code Go.Proofs.YtgdelfckhcgnhaaW.PrintWords Go.Proofs.YtgdelfckhcgnhaaW.PrintLast Go.Proofs.YtgdelfckhcgnhaaW.PrintMore
set_option linter.unusedVariables false

def quartermasterref21_Decode.f (l0 : List Int) : Option (Int × Int × Int × Int × Int × Int × Int × Int × Int × (List (S93)) × Int) := if okBytes l0 then some (tuple9 (decP l0).1.1 (decP l0).1.2 (decP l0).2) else none
theorem quartermasterref21_Decode.calls (A0 : Option Addr) (c0 : Nat) (l0 : List Int) (r1 : Int) (r2 : Int) (r3 : Int) (r4 : Int) (r5 : Int) (r6 : Int) (r7 : Int) (r8 : Int) (r9 : Int) (r10 : List (S93)) (r11 : Int) (w : World) (hr0 : Kd.C (Kd.int .u8) w A0 l0.length l0) (hc0 : l0.length ≤ c0) (h : quartermasterref21_Decode.f l0 = some (r1, r2, r3, r4, r5, r6, r7, r8, r9, r10, r11)) :
    Calls Try.prog 19 #[.slice A0 l0.length c0] w fun e w' => ∃ v9_ : Value, e = .returned (.tuple #[.agg #[.int .i64 r1, .int .i64 r2, .int .i64 r3, .int .i64 r4, .int .i64 r5, .int .i64 r6, .int .i64 r7, .int .i64 r8, .int .i64 r9, v9_], .int .i64 r11]) ∧ Kd.R k93 93 w' w.heap.size (fun _ => True) v9_ r10 ∧ Below w.heap.size w w' := by
  unfold quartermasterref21_Decode.f at h
  by_cases hp : okBytes l0 = true
  · rw [if_pos hp] at h
    obtain ⟨h1, h2⟩ := okBytes_out hp
    have h3 := Option.some.inj h
    refine ((refDec_is h1) ▸ rdec_any A0 c0 l0 w hr0 hc0 h1).mono ?_
    rintro e w' ⟨m0, m1, m2, m3, m4, m5, m6, m7, m8, v9, hm, rfl, hR, hb⟩
    simp only [tuple9, hm, List.getD_cons_zero, List.getD_cons_succ, Prod.mk.injEq] at h3
    obtain ⟨rfl, rfl, rfl, rfl, rfl, rfl, rfl, rfl, rfl, rfl, rfl⟩ := h3
    exact ⟨v9, rfl, hR, hb⟩
  · rw [if_neg hp] at h; cases h
def quartermasterref21_Told.f (l0 : List Int) : Option (Int × Int × Int × (List (S93)) × (List (S76)) × Int) := if okBytes l0 then some ((toldP l0).1.c, (toldP l0).1.a, (toldP l0).1.b, (toldP l0).1.L, (toldP l0).1.K, (toldP l0).2) else none
theorem quartermasterref21_Told.calls (A0 : Option Addr) (c0 : Nat) (l0 : List Int) (r1 : Int) (r2 : Int) (r3 : Int) (r4 : List (S93)) (r5 : List (S76)) (r6 : Int) (w : World) (hr0 : Kd.C (Kd.int .u8) w A0 l0.length l0) (hc0 : l0.length ≤ c0) (h : quartermasterref21_Told.f l0 = some (r1, r2, r3, r4, r5, r6)) :
    Calls Try.prog 21 #[.slice A0 l0.length c0] w fun e w' => ∃ v3_ v4_ : Value, e = .returned (.tuple #[.agg #[.int .i64 r1, .int .i64 r2, .int .i64 r3, v3_, v4_], .int .i64 r6]) ∧ Kd.R k93 93 w' w.heap.size (fun _ => True) v3_ r4 ∧ Kd.R k76 76 w' w.heap.size (fun _ => True) v4_ r5 ∧ Below w.heap.size w w' := by
  unfold quartermasterref21_Told.f at h
  by_cases hp : okBytes l0 = true
  · rw [if_pos hp] at h
    obtain ⟨h1, h2⟩ := okBytes_out hp
    have h3 := Option.some.inj h
    refine ((refTold_is h1) ▸ rtold_any A0 c0 l0 w hr0 hc0 h1).mono ?_
    rintro e w' ⟨v3, v4, rfl, hR, hR2, hb⟩
    simp only [Prod.mk.injEq] at h3
    obtain ⟨rfl, rfl, rfl, rfl, rfl, rfl⟩ := h3
    exact ⟨v3, v4, rfl, Kd.R_mono hR (fun _ _ => trivial), hR2, hb⟩
  · rw [if_neg hp] at h; cases h
end Go.Proofs.Ytgdelfckhcgnhaa.Ext
