/- The reference's Decode: the walk. No conditions beside those that each contract states. -/
import Derived.Test.YtgdelfckhcgnhaaReqG
import Derived.Test.YtgdelfckhcgnhaaReqBackP
import Derived.Test.YtgdelfckhcgnhaaPa4
import Derived.StillTailTactics
namespace Go.Proofs.Ytgdelfckhcgnhaa.Code
open Go.RowKit Go.Proofs.Ytgdelfckhcgnhaa.Pa Go.Proofs.YtgdelfckhcgnhaaW.PrintWords Go.Proofs.YtgdelfckhcgnhaaW.PrintLast Go.Proofs.YtgdelfckhcgnhaaW.PrintMore Go.Proofs.Ytgdelfckhcgnhaa.Back
set_option linter.unusedVariables false
set_option linter.unusedSimpArgs false

def fldC (c : Int) : Nat := if c = 105 then 1 else if c = 115 then 2 else if c = 108 then 3 else if c = 116 then 4 else if c = 113 then 5 else if c = 114 then 6 else if c = 107 then 7 else 8
abbrev DSt := (List Int × List S93) × List Int
def rdecStep (p : DSt) (b : Int) : Option DSt :=
  if b = 76 then (match rread p.2 with | none => none | some (M, l) => some ((p.1.1, M), l))
  else if b = 81 then (if (getInt p.2).e = 0 then some ((p.1.1.set 5 (getInt p.2).v, p.1.2), (getInt p.2).left) else none)
  else match numsN p.2 1 with | none => none | some (xs, l) => some ((p.1.1.set (fldC b) (xs.getD 0 0), p.1.2), l)
def rdecN (S : ByteArray) (p : DSt) : Nat → Option DSt
  | 0 => some p
  | j + 1 => match rdecN S p j with
    | none => none
    | some q => rdecStep q (bt S (j : Int))
theorem rdecN_succ {S : ByteArray} {p q : DSt} {j : Nat} (h : rdecN S p j = some q) : rdecN S p (j + 1) = rdecStep q (bt S (j : Int)) := by simp only [rdecN, h]
theorem rdecN_none {S : ByteArray} {p : DSt} {j : Nat} (h : rdecN S p j = none) : ∀ {n : Nat}, j ≤ n → rdecN S p n = none
  | 0, hj => by
    obtain rfl : j = 0 := by omega
    exact h
  | n + 1, hj => by
    rcases Nat.lt_or_ge n j with h1 | h1
    · obtain rfl : j = n + 1 := by omega
      exact h
    · simp only [rdecN, rdecN_none h h1]
def formS (k : Int) : ByteArray := ⟨(formL k).toArray⟩
def refDec1 (S : ByteArray) (x : Int) (l : List Int) : (List Int × List S93) × Int := match rdecN S (([x, 0, 0, 0, 0, 0, 0, 0, 0], []), l) S.size with
  | none => (([0, 0, 0, 0, 0, 0, 0, 0, 0], []), 7)
  | some (p, r) => if r = [] then (p, 0) else (([0, 0, 0, 0, 0, 0, 0, 0, 0], []), 7)
def refDec (bs : List Int) : (List Int × List S93) × Int := match numsN bs 1 with
  | none => (([0, 0, 0, 0, 0, 0, 0, 0, 0], []), 7)
  | some (xs, l) => if okKind (xs.getD 0 0) = true then refDec1 (formS (xs.getD 0 0)) (xs.getD 0 0) l else (([0, 0, 0, 0, 0, 0, 0, 0, 0], []), 7)
theorem rread_bytes {bs : List Int} {L : List S93} {r : List Int} (hb : Bytes bs) (h : rread bs = some (L, r)) : Bytes r := by
  unfold rread at h
  cases h1 : numsN bs 1 with
  | none => rw [h1] at h; cases h
  | some p =>
    obtain ⟨xs, l⟩ := p
    rw [h1] at h
    simp only at h
    have hl := (numsN_bytes hb h1).1
    split at h
    · cases h
    · have : ∀ (n : Nat) (L : List S93) (r : List Int), rlinesN l n = some (L, r) → Bytes r := fun n => by
        induction n with
        | zero =>
          intro L r h
          simp only [rlinesN, Option.some.injEq, Prod.mk.injEq] at h
          rw [← h.2]; exact hl
        | succ n ih =>
          intro L r h
          cases hn : rlinesN l n with
          | none => simp only [rlinesN, hn] at h; cases h
          | some p =>
            obtain ⟨M, s⟩ := p
            rw [rlinesN_succ hn] at h
            cases h3 : numsN s 3 with
            | none => simp only [h3] at h; cases h
            | some q =>
              simp only [h3, Option.some.injEq, Prod.mk.injEq] at h
              rw [← h.2]
              exact (numsN_bytes (ih M s hn) h3).1
      exact this _ _ _ h
theorem formL_out {k : Int} (h : ¬ (1 ≤ k ∧ k ≤ 10)) : formL k = [63] := by
  unfold formL
  rw [if_neg (by omega), if_neg (by omega), if_neg (by omega), if_neg (by omega), if_neg (by omega), if_neg (by omega), if_neg (by omega), if_neg (by omega), if_neg (by omega), if_neg (by omega)]
theorem formS_f (k : Int) : quartermasterref21_form.f k = some (formS k) := by
  unfold quartermasterref21_form.f formS
  rw [Option.bind_some]
  by_cases h : 1 ≤ k ∧ k ≤ 10
  · rcases (by omega : k = 1 ∨ k = 2 ∨ k = 3 ∨ k = 4 ∨ k = 5 ∨ k = 6 ∨ k = 7 ∨ k = 8 ∨ k = 9 ∨ k = 10) with h | h | h | h | h | h | h | h | h | h
    all_goals
      subst h
      rfl
  · rw [formL_out h]
    by_cases h1 : k < 1
    · rw [if_pos h1]
    · rw [if_neg h1, if_pos (by omega)]
theorem formS_no {k : Int} (h : okKind k = false) : ((formS k).toList == ([63] : List UInt8)) = true := by
  have h2 : ¬ (1 ≤ k ∧ k ≤ 10) := of_decide_eq_false h
  unfold formS
  rw [formL_out h2]
  decide +kernel
theorem formS_yes {k : Int} (h : okKind k = true) : ((formS k).toList == ([63] : List UInt8)) = false ∧ (formS k).size ≤ 5 ∧ ∀ j, j < (formS k).size → bt (formS k) (j : Int) = 76 ∨ bt (formS k) (j : Int) = 81 ∨ bt (formS k) (j : Int) ∈ ([105, 115, 108, 116, 113, 114, 107, 110] : List Int) := by
  have h2 : 1 ≤ k ∧ k ≤ 10 := of_decide_eq_true h
  rcases (by omega : k = 1 ∨ k = 2 ∨ k = 3 ∨ k = 4 ∨ k = 5 ∨ k = 6 ∨ k = 7 ∨ k = 8 ∨ k = 9 ∨ k = 10) with h | h | h | h | h | h | h | h | h | h
  all_goals
    subst h
    decide +kernel
theorem rput_any {n0 n1 n2 n3 n4 n5 n6 n7 n8 : Int} (c x : Int) (hc : c ∈ ([105, 115, 108, 116, 113, 114, 107, 110] : List Int)) (A : Option Addr) (k cap : Nat) (W : World) : Calls Try.prog 45 #[.agg #[.int .i64 n0, .int .i64 n1, .int .i64 n2, .int .i64 n3, .int .i64 n4, .int .i64 n5, .int .i64 n6, .int .i64 n7, .int .i64 n8, .slice A k cap], .int .u8 c, .int .i64 x] W fun e w' => ∃ m0 m1 m2 m3 m4 m5 m6 m7 m8, [n0, n1, n2, n3, n4, n5, n6, n7, n8].set (fldC c) x = [m0, m1, m2, m3, m4, m5, m6, m7, m8] ∧ e = .returned (.agg #[.int .i64 m0, .int .i64 m1, .int .i64 m2, .int .i64 m3, .int .i64 m4, .int .i64 m5, .int .i64 m6, .int .i64 m7, .int .i64 m8, .slice A k cap]) ∧ Below W.heap.size W w' := by
  simp only [List.mem_cons, List.not_mem_nil, or_false] at hc
  rcases hc with rfl | rfl | rfl | rfl | rfl | rfl | rfl | rfl
  · refine (put_105 n0 n1 n2 n3 n4 n5 n6 n7 n8 x A k cap W).mono ?_
    rintro e w' ⟨he, hb⟩
    exact ⟨_, _, _, _, _, _, _, _, _, rfl, he, hb⟩
  · refine (put_115 n0 n1 n2 n3 n4 n5 n6 n7 n8 x A k cap W).mono ?_
    rintro e w' ⟨he, hb⟩
    exact ⟨_, _, _, _, _, _, _, _, _, rfl, he, hb⟩
  · refine (put_108 n0 n1 n2 n3 n4 n5 n6 n7 n8 x A k cap W).mono ?_
    rintro e w' ⟨he, hb⟩
    exact ⟨_, _, _, _, _, _, _, _, _, rfl, he, hb⟩
  · refine (put_116 n0 n1 n2 n3 n4 n5 n6 n7 n8 x A k cap W).mono ?_
    rintro e w' ⟨he, hb⟩
    exact ⟨_, _, _, _, _, _, _, _, _, rfl, he, hb⟩
  · refine (put_113 n0 n1 n2 n3 n4 n5 n6 n7 n8 x A k cap W).mono ?_
    rintro e w' ⟨he, hb⟩
    exact ⟨_, _, _, _, _, _, _, _, _, rfl, he, hb⟩
  · refine (put_114 n0 n1 n2 n3 n4 n5 n6 n7 n8 x A k cap W).mono ?_
    rintro e w' ⟨he, hb⟩
    exact ⟨_, _, _, _, _, _, _, _, _, rfl, he, hb⟩
  · refine (put_107 n0 n1 n2 n3 n4 n5 n6 n7 n8 x A k cap W).mono ?_
    rintro e w' ⟨he, hb⟩
    exact ⟨_, _, _, _, _, _, _, _, _, rfl, he, hb⟩
  · refine (put_110 n0 n1 n2 n3 n4 n5 n6 n7 n8 x A k cap W).mono ?_
    rintro e w' ⟨he, hb⟩
    exact ⟨_, _, _, _, _, _, _, _, _, rfl, he, hb⟩
theorem DecTold.no {W w' : World} {R : (List Int × List S93) × Int} (h : R = (([0, 0, 0, 0, 0, 0, 0, 0, 0], []), 7)) (hb : Below W.heap.size W w') : DecTold W R (.returned (.tuple #[.agg #[.int .i64 0, .int .i64 0, .int .i64 0, .int .i64 0, .int .i64 0, .int .i64 0, .int .i64 0, .int .i64 0, .int .i64 0, .slice none 0 0], .int .i64 7])) w' := by
  subst h
  exact ⟨0, 0, 0, 0, 0, 0, 0, 0, 0, _, rfl, rfl, Kd.R_nil _ _ _ _ _, hb⟩
theorem DecTold.yes {W w' : World} {R : (List Int × List S93) × Int} {n0 n1 n2 n3 n4 n5 n6 n7 n8 : Int} {v : Value} {L : List S93} (h : R = (([n0, n1, n2, n3, n4, n5, n6, n7, n8], L), 0)) (hR : Kd.R k93 93 w' W.heap.size (fun _ => True) v L) (hb : Below W.heap.size W w') : DecTold W R (.returned (.tuple #[.agg #[.int .i64 n0, .int .i64 n1, .int .i64 n2, .int .i64 n3, .int .i64 n4, .int .i64 n5, .int .i64 n6, .int .i64 n7, .int .i64 n8, v], .int .i64 0])) w' := by
  subst h
  exact ⟨n0, n1, n2, n3, n4, n5, n6, n7, n8, v, rfl, rfl, hR, hb⟩
set_option maxRecDepth 100000 in
set_option maxHeartbeats 32000000 in
theorem rdec_any (A : Option Addr) (c : Nat) (bs : List Int) (W : World) (hC : Kd.C (Kd.int .u8) W A bs.length bs) (hc : bs.length ≤ c) (hb : Bytes bs) : Calls Try.prog 19 #[.slice A bs.length c] W (DecTold W (refDec bs)) := by
  have hA := (Sit.refl W).alloc #[.int .i64 0, .int .i64 0, .int .i64 0, .int .i64 0, .int .i64 0, .int .i64 0, .int .i64 0, .int .i64 0, .int .i64 0, .slice none 0 0] 26
  cases h1 : numsN bs 1 with
  | none =>
    have hR : refDec bs = (([0, 0, 0, 0, 0, 0, 0, 0, 0], []), 7) := by unfold refDec; rw [h1]
    have PN := Aside0.mk (snums_no (n := 1) (N := 1) rfl (by omega) hA hC hc hb h1)
    have HR := Aside0.mk hR
    clear hA hC hc hb h1 hR
    go_enter Try.func19, Try.ntmps19
    go_wp2_with (go_at_call 42; (with_reducible refine PN.out.mono ?_); rintro e' w1 ⟨rfl, hs⟩; have H1 := Aside0.mk hs; obtain ⟨z0, zf0⟩ := sit_cell (i := 0) (v := .int .i64 0) hs rfl; obtain ⟨z1, zf1⟩ := sit_cell (i := 1) (v := .int .i64 0) hs rfl; obtain ⟨z2, zf2⟩ := sit_cell (i := 2) (v := .int .i64 0) hs rfl; obtain ⟨z3, zf3⟩ := sit_cell (i := 3) (v := .int .i64 0) hs rfl; obtain ⟨z4, zf4⟩ := sit_cell (i := 4) (v := .int .i64 0) hs rfl; obtain ⟨z5, zf5⟩ := sit_cell (i := 5) (v := .int .i64 0) hs rfl; obtain ⟨z6, zf6⟩ := sit_cell (i := 6) (v := .int .i64 0) hs rfl; obtain ⟨z7, zf7⟩ := sit_cell (i := 7) (v := .int .i64 0) hs rfl; obtain ⟨z8, zf8⟩ := sit_cell (i := 8) (v := .int .i64 0) hs rfl; obtain ⟨z9, zf9⟩ := sit_cell (i := 9) (v := .slice none 0 0) hs rfl; clear hs)

    have hs := H1.out
    have HF := ((((((((((hs.set 0 (.int .i64 0)).set 1 (.int .i64 0)).set 2 (.int .i64 0)).set 3 (.int .i64 0)).set 4 (.int .i64 0)).set 5 (.int .i64 0)).set 6 (.int .i64 0)).set 7 (.int .i64 0)).set 8 (.int .i64 0)).set 9 (.slice none 0 0))
    have hblk := HF.blk.1
    simp only [List.setIfInBounds_toArray, List.set_cons_zero, List.set_cons_succ] at hblk
    clear z0 zf0 z1 zf1 z2 zf2 z3 zf3 z4 zf4 z5 zf5 z6 zf6 z7 zf7 z8 zf8 z9 zf9
    refine bodyPost_ret (results_ct rfl _ _ W.heap.size 26 #[.int .i64 0, .int .i64 0, .int .i64 0, .int .i64 0, .int .i64 0, .int .i64 0, .int .i64 0, .int .i64 0, .int .i64 0, .slice none 0 0] (0, 0) _ rfl hblk Try.underlying26 rfl (by rfl)) rfl ?_
    exact DecTold.no HR.out HF.below

  | some p =>
    obtain ⟨xs, l0⟩ := p
    have hlen := numsN_len h1
    obtain ⟨x, rfl⟩ : ∃ x, xs = [x] := by
      match xs, hlen with
      | [x], _ => exact ⟨x, rfl⟩
    have hbl := numsN_bytes hb h1
    have PN := Aside0.mk (snums_yes (n := 1) (N := 1) rfl (by omega) (by omega) hA hC hc hb h1)
    have pf := fun w => quartermasterref21_form.calls x _ w (formS_f x)
    have HB := Aside0.mk hbl.1
    have hH : refDec bs = if okKind x = true then refDec1 (formS x) x l0 else (([0, 0, 0, 0, 0, 0, 0, 0, 0], []), 7) := by unfold refDec; rw [h1]; rfl
    rw [hH]
    clear hA hC hc hb h1 hlen hbl hH
    cases hk : okKind x with
    | false =>
      have c3b0 := formS_no hk
      rw [if_neg (by decide)]
      obtain ⟨S, hS⟩ : ∃ S, S = formS x := ⟨_, rfl⟩
      rw [← hS] at pf c3b0
      have PF := Aside0.mk pf
      clear hk hS pf
      go_enter Try.func19, Try.ntmps19
      go_wp2_with (first | (go_at_call 42; (with_reducible refine PN.out.mono ?_); rintro e' w1 ⟨g, cv, A', c', rfl, hl1, hcv, hC1, hcell, hs⟩; have H1 := Aside0.mk hs; have c0 := hcell 0 (by simp); simp only [List.getD_cons_zero] at c0; have hcv2 : 1 ≤ cv := hcv; clear hs hcell hl1 hC1 hcv) | (go_at_call 37; (with_reducible refine (PF.out _).mono ?_); rintro e' w2 ⟨rfl, hb⟩; have hs := H1.out.behind hb; have H2 := Aside0.mk hs; obtain ⟨z0, zf0⟩ := sit_cell (i := 0) (v := .int .i64 0) hs.tail rfl; obtain ⟨z1, zf1⟩ := sit_cell (i := 1) (v := .int .i64 0) hs.tail rfl; obtain ⟨z2, zf2⟩ := sit_cell (i := 2) (v := .int .i64 0) hs.tail rfl; obtain ⟨z3, zf3⟩ := sit_cell (i := 3) (v := .int .i64 0) hs.tail rfl; obtain ⟨z4, zf4⟩ := sit_cell (i := 4) (v := .int .i64 0) hs.tail rfl; obtain ⟨z5, zf5⟩ := sit_cell (i := 5) (v := .int .i64 0) hs.tail rfl; obtain ⟨z6, zf6⟩ := sit_cell (i := 6) (v := .int .i64 0) hs.tail rfl; obtain ⟨z7, zf7⟩ := sit_cell (i := 7) (v := .int .i64 0) hs.tail rfl; obtain ⟨z8, zf8⟩ := sit_cell (i := 8) (v := .int .i64 0) hs.tail rfl; obtain ⟨z9, zf9⟩ := sit_cell (i := 9) (v := .slice none 0 0) hs.tail rfl; clear hs hb))

      have hs := H2.out.tail
      have HF := ((((((((((hs.set 0 (.int .i64 0)).set 1 (.int .i64 0)).set 2 (.int .i64 0)).set 3 (.int .i64 0)).set 4 (.int .i64 0)).set 5 (.int .i64 0)).set 6 (.int .i64 0)).set 7 (.int .i64 0)).set 8 (.int .i64 0)).set 9 (.slice none 0 0))
      have hblk := HF.blk.1
      simp only [List.setIfInBounds_toArray, List.set_cons_zero, List.set_cons_succ] at hblk
      clear z0 zf0 z1 zf1 z2 zf2 z3 zf3 z4 zf4 z5 zf5 z6 zf6 z7 zf7 z8 zf8 z9 zf9
      refine bodyPost_ret (results_ct rfl _ _ W.heap.size 26 #[.int .i64 0, .int .i64 0, .int .i64 0, .int .i64 0, .int .i64 0, .int .i64 0, .int .i64 0, .int .i64 0, .int .i64 0, .slice none 0 0] (0, 0) _ rfl hblk Try.underlying26 rfl (by rfl)) rfl ?_
      exact DecTold.no rfl HF.below

    | true =>
      obtain ⟨c3b0, hsz, hlet⟩ := formS_yes hk
      rw [if_pos rfl]
      obtain ⟨S, hS⟩ : ∃ S, S = formS x := ⟨_, rfl⟩
      rw [← hS] at pf c3b0 hsz hlet ⊢
      have PF := Aside0.mk pf
      have HLET := Aside0.mk (And.intro hsz hlet)
      clear hk hS pf hsz hlet
      go_enter Try.func19, Try.ntmps19
      go_wp2_with (first | (go_at_call 42; (with_reducible refine PN.out.mono ?_); rintro e' w1 ⟨g, cv, A', c', rfl, hl1, hcv, hC1, hcell, hs⟩; have H1 := Aside0.mk hs; have c0 := hcell 0 (by simp); simp only [List.getD_cons_zero] at c0; have hcv2 : 1 ≤ cv := hcv; have HC1 : Aside0 (l0.length ≤ c' ∧ Kd.C (Kd.int .u8) W A' l0.length l0) := ⟨hl1, hC1⟩; clear hs hcell hl1 hC1 hcv) | (go_at_call 37; (with_reducible refine (PF.out _).mono ?_); rintro e' w2 ⟨rfl, hb⟩; have hs := H1.out.behind hb; have c1 := sit_rowI2 hs 0 (by simp); simp only [List.getD_cons_zero] at c1; have H2 := Aside0.mk (sit_nil93 hs); clear hs hb))
      have HS : Aside0 (rdecN S (([x, 0, 0, 0, 0, 0, 0, 0, 0], []), l0) 0 = some (([x, 0, 0, 0, 0, 0, 0, 0, 0], []), l0) ∧ Bytes l0) := ⟨rfl, HB.out⟩
      have hs3 := (((H2.out.swap).tail).alloc #[.int .i64 x, .int .i64 0, .int .i64 0, .int .i64 0, .int .i64 0, .int .i64 0, .int .i64 0, .int .i64 0, .int .i64 0, .slice none 0 0] 26)
      obtain ⟨W3, hW3⟩ : ∃ W3, W3 = w2.alloc (.cells #[.int .i64 x, .int .i64 0, .int .i64 0, .int .i64 0, .int .i64 0, .int .i64 0, .int .i64 0, .int .i64 0, .int .i64 0, .slice none 0 0] 26) := ⟨_, rfl⟩
      show Code.wp _ _ _ _ (w2.alloc (.cells #[.int .i64 x, .int .i64 0, .int .i64 0, .int .i64 0, .int .i64 0, .int .i64 0, .int .i64 0, .int .i64 0, .int .i64 0, .slice none 0 0] 26))
      rw [← hW3] at hs3 ⊢
      obtain ⟨rb, hrb⟩ : ∃ rb, rb = w2.heap.size := ⟨_, rfl⟩
      rw [← hrb] at hs3 ⊢
      have H3 := Aside0.mk hs3
      clear hs3 hW3 hrb PN PF c0 c1 c3b0 H1 H2 HB
      go_loopg [5, 9, 10, 11, 12, 13, 14, 15, 16, 17, 18] (S.size + 1) (fun kq v5 v9 v10 v11 v12 v13 v14 v15 v16 v17 v18 w' => ∃ (I : Int) (j : Nat) (A1 AL : Option Addr) (c1 cL : Nat) (l : List Int) (n0 n1 n2 n3 n4 n5 n6 n7 n8 : Int) (L : List S93) (T' : List Thing), v5 = .slice A1 l.length c1 ∧ v9 = .int .i64 I ∧ Aside0 (I = (j : Int) ∧ kq + j = S.size + 1 ∧ j ≤ S.size) ∧ Aside0 (rdecN S (([x, 0, 0, 0, 0, 0, 0, 0, 0], []), l0) j = some (([n0, n1, n2, n3, n4, n5, n6, n7, n8], L), l) ∧ Bytes l) ∧ Aside0 (l.length ≤ c1 ∧ Kd.C (Kd.int .u8) W A1 l.length l) ∧ Aside0 (Sit W w' (.blk rb (.cells #[.int .i64 n0, .int .i64 n1, .int .i64 n2, .int .i64 n3, .int .i64 n4, .int .i64 n5, .int .i64 n6, .int .i64 n7, .int .i64 n8, .slice AL L.length cL] 26 (0, 0)) :: row93 (.slice AL L.length cL) L :: .blk W.heap.size (.cells #[.int .i64 0, .int .i64 0, .int .i64 0, .int .i64 0, .int .i64 0, .int .i64 0, .int .i64 0, .int .i64 0, .int .i64 0, .slice none 0 0] 26 (0, 0)) :: T')))
      case atStart => exact ⟨0, 0, A', none, c', 0, l0, x, 0, 0, 0, 0, 0, 0, 0, 0, [], [], rfl, rfl, ⟨⟨rfl, rfl, Nat.zero_le _⟩⟩, HS, HC1, H3⟩
      case round =>
        clear HS HC1 H3
        obtain ⟨I, j, A1, AL, c1, cL, l, n0, n1, n2, n3, n4, n5, n6, n7, n8, L, T', rfl, rfl, HA, HS, H2, H1⟩ := hrel
        cases gk with
        | zero => exact absurd HA.out.2 (by omega)
        | succ k1 =>
          by_cases hi : I < (S.size : Int)
          · have q0 : decide (I < (S.size : Int)) = true := decide_eq_true hi
            have hI0 : 0 ≤ I := by have := HA.out.1; omega
            have q1 : decide (0 ≤ I) = true := decide_eq_true hI0
            have hjn : j < S.size := by have := HA.out.1; omega
            have hw9 : Aside0 (wrap64 (I + 1) = ((j + 1 : Nat) : Int)) := ⟨by have h3 := HA.out.1; have h4 := HLET.out.1; unfold wrap64; omega⟩
            have HA2 : Aside0 (k1 + (j + 1) = S.size + 1 ∧ j + 1 ≤ S.size) := ⟨by have := HA.out; omega⟩
            have hsuc := rdecN_succ HS.out.1
            rw [← HA.out.1] at hsuc
            have hlt := HLET.out.2 j hjn
            rw [← HA.out.1] at hlt
            have p5 : (0 ≤ I) = True := eq_true hI0
            have q5 : (I < (S.size : Int)) = True := eq_true hi
            have hx5 := bt_at S I
            have hbad : rdecN S (([x, 0, 0, 0, 0, 0, 0, 0, 0], []), l0) (j + 1) = none → refDec1 S x l0 = (([0, 0, 0, 0, 0, 0, 0, 0, 0], []), 7) := fun h => by
              unfold refDec1
              rw [rdecN_none h (show j + 1 ≤ S.size by omega)]
            clear hi hI0 hjn
            by_cases h76 : bt S I = 76
            · have b0 : (bt S I == 76) = true := beq_iff_eq.mpr h76
              unfold rdecStep at hsuc
              rw [if_pos h76] at hsuc
              cases h4 : rread l with
              | none =>
                rw [h4] at hsuc
                have HR := Aside0.mk (hbad hsuc)
                have pr := rread_any H1.out H2.out.2 H2.out.1 HS.out.2
                rw [h4] at pr
                unfold ReadTold at pr
                have PR := Aside0.mk pr
                clear hsuc hbad hlt h76 h4 pr
                go_wp2_with (go_at_call 43; (with_reducible refine PR.out.mono ?_); rintro e' w4 ⟨rfl, hs⟩; have H4 := Aside0.mk hs; obtain ⟨z0, zf0⟩ := sit_cell (i := 0) (v := .int .i64 0) hs.rot rfl; obtain ⟨z1, zf1⟩ := sit_cell (i := 1) (v := .int .i64 0) hs.rot rfl; obtain ⟨z2, zf2⟩ := sit_cell (i := 2) (v := .int .i64 0) hs.rot rfl; obtain ⟨z3, zf3⟩ := sit_cell (i := 3) (v := .int .i64 0) hs.rot rfl; obtain ⟨z4, zf4⟩ := sit_cell (i := 4) (v := .int .i64 0) hs.rot rfl; obtain ⟨z5, zf5⟩ := sit_cell (i := 5) (v := .int .i64 0) hs.rot rfl; obtain ⟨z6, zf6⟩ := sit_cell (i := 6) (v := .int .i64 0) hs.rot rfl; obtain ⟨z7, zf7⟩ := sit_cell (i := 7) (v := .int .i64 0) hs.rot rfl; obtain ⟨z8, zf8⟩ := sit_cell (i := 8) (v := .int .i64 0) hs.rot rfl; obtain ⟨z9, zf9⟩ := sit_cell (i := 9) (v := .slice none 0 0) hs.rot rfl; clear hs)

                have hs := H4.out.rot
                have HF := ((((((((((hs.set 0 (.int .i64 0)).set 1 (.int .i64 0)).set 2 (.int .i64 0)).set 3 (.int .i64 0)).set 4 (.int .i64 0)).set 5 (.int .i64 0)).set 6 (.int .i64 0)).set 7 (.int .i64 0)).set 8 (.int .i64 0)).set 9 (.slice none 0 0))
                have hblk := HF.blk.1
                simp only [List.setIfInBounds_toArray, List.set_cons_zero, List.set_cons_succ] at hblk
                clear z0 zf0 z1 zf1 z2 zf2 z3 zf3 z4 zf4 z5 zf5 z6 zf6 z7 zf7 z8 zf8 z9 zf9
                refine bodyPost_ret (results_ct rfl _ _ W.heap.size 26 #[.int .i64 0, .int .i64 0, .int .i64 0, .int .i64 0, .int .i64 0, .int .i64 0, .int .i64 0, .int .i64 0, .int .i64 0, .slice none 0 0] (0, 0) _ rfl hblk Try.underlying26 rfl (by rfl)) rfl ?_
                exact DecTold.no HR.out HF.below

              | some p =>
                obtain ⟨M, l2⟩ := p
                rw [h4] at hsuc
                have pr := rread_any H1.out H2.out.2 H2.out.1 HS.out.2
                rw [h4] at pr
                unfold ReadTold at pr
                have hbl := rread_bytes HS.out.2 h4
                have HF := Aside0.mk hbl
                have PR := Aside0.mk pr
                have HQ := Aside0.mk hsuc
                clear hsuc hbad hlt h76 h4 pr hbl
                go_wp2_with (go_at_call 43; (with_reducible refine PR.out.mono ?_); rintro e' w4 ⟨v9, A2, c2, rfl, hc2, hC2, hs⟩; obtain ⟨A9, c9, rfl⟩ := own_slice (sit_own93 hs); have H4 := Aside0.mk hs.swap; have H5 := Aside0.mk (And.intro hc2 hC2); obtain ⟨y9, yf9⟩ := sit_cell (i := 9) (v := .slice AL L.length cL) hs.swap rfl; clear hs hc2 hC2)
                go_roundg k1
                case measure => omega
                case rel => exact ⟨_, j + 1, A2, A9, c2, c9, l2, n0, n1, n2, n3, n4, n5, n6, n7, n8, M, row93 (.slice AL L.length cL) L :: T', rfl, rfl, ⟨hw9.out, HA2.out⟩, ⟨HQ.out, HF.out⟩, H5, ⟨(H4.out.set 9 (.slice A9 M.length c9)).perm (((List.Perm.swap _ _ _).cons _).cons _)⟩⟩
            · have b0 : (bt S I == 76) = false := beq_eq_false_iff_ne.mpr h76
              by_cases h81 : bt S I = 81
              · have b1 : (bt S I == 81) = true := beq_iff_eq.mpr h81
                unfold rdecStep at hsuc
                rw [if_neg h76, if_pos h81] at hsuc
                have pg := rgetint_any A1 c1 l wr (Kd.C_below H2.out.2 H1.out.below) H2.out.1 HS.out.2
                have hfit := (int_fits HS.out.2).2
                simp only at hsuc
                obtain ⟨E, hE⟩ : ∃ E, E = (getInt l).e := ⟨_, rfl⟩
                obtain ⟨y, hy⟩ : ∃ y, y = (getInt l).v := ⟨_, rfl⟩
                obtain ⟨l2, hl2⟩ : ∃ l2, l2 = (getInt l).left := ⟨_, rfl⟩
                unfold RGot at pg
                rw [← hE, ← hy, ← hl2] at pg hsuc
                rw [← hl2] at hfit
                have HF := Aside0.mk hfit
                have PG := Aside0.mk pg
                clear pg hE hy hl2 hfit h76 h81 hlt
                by_cases he : E = 0
                · have e1 : (E != 0) = false := by rw [he]; rfl
                  rw [if_pos he] at hsuc
                  have HQ := Aside0.mk hsuc
                  clear he hsuc hbad
                  go_wp2_with (go_at_call 44; refine PG.out.mono ?_; rintro e' w4 ⟨A2, c2, rfl, h2, h3, ⟨m, rfl⟩⟩; have hs := H1.out.drewN m; have H4 := Aside0.mk hs; have H5 := Aside0.mk (And.intro h2 (h3 W H2.out.2)); obtain ⟨y5, yf5⟩ := sit_cell (i := 5) (v := .int .i64 n5) hs rfl; clear hs h2 h3)
                  go_roundg k1
                  case measure => omega
                  case rel => exact ⟨_, j + 1, A2, AL, c2, cL, l2, n0, n1, n2, n3, n4, y, n6, n7, n8, L, T', rfl, rfl, ⟨hw9.out, HA2.out⟩, ⟨HQ.out, HF.out⟩, H5, ⟨H4.out.set 5 (.int .i64 y)⟩⟩
                · have e1 : (E != 0) = true := by simp [he]
                  rw [if_neg he] at hsuc
                  have HR := Aside0.mk (hbad hsuc)
                  clear he hsuc hbad
                  go_wp2_with (go_at_call 44; refine PG.out.mono ?_; rintro e' w4 ⟨A2, c2, rfl, h2, h3, ⟨m, rfl⟩⟩; have hs := H1.out.drewN m; have H4 := Aside0.mk hs; obtain ⟨z0, zf0⟩ := sit_cell (i := 0) (v := .int .i64 0) hs.rot rfl; obtain ⟨z1, zf1⟩ := sit_cell (i := 1) (v := .int .i64 0) hs.rot rfl; obtain ⟨z2, zf2⟩ := sit_cell (i := 2) (v := .int .i64 0) hs.rot rfl; obtain ⟨z3, zf3⟩ := sit_cell (i := 3) (v := .int .i64 0) hs.rot rfl; obtain ⟨z4, zf4⟩ := sit_cell (i := 4) (v := .int .i64 0) hs.rot rfl; obtain ⟨z5, zf5⟩ := sit_cell (i := 5) (v := .int .i64 0) hs.rot rfl; obtain ⟨z6, zf6⟩ := sit_cell (i := 6) (v := .int .i64 0) hs.rot rfl; obtain ⟨z7, zf7⟩ := sit_cell (i := 7) (v := .int .i64 0) hs.rot rfl; obtain ⟨z8, zf8⟩ := sit_cell (i := 8) (v := .int .i64 0) hs.rot rfl; obtain ⟨z9, zf9⟩ := sit_cell (i := 9) (v := .slice none 0 0) hs.rot rfl; clear hs h2 h3)

                  have hs := H4.out.rot
                  have HF := ((((((((((hs.set 0 (.int .i64 0)).set 1 (.int .i64 0)).set 2 (.int .i64 0)).set 3 (.int .i64 0)).set 4 (.int .i64 0)).set 5 (.int .i64 0)).set 6 (.int .i64 0)).set 7 (.int .i64 0)).set 8 (.int .i64 0)).set 9 (.slice none 0 0))
                  have hblk := HF.blk.1
                  simp only [List.setIfInBounds_toArray, List.set_cons_zero, List.set_cons_succ] at hblk
                  clear z0 zf0 z1 zf1 z2 zf2 z3 zf3 z4 zf4 z5 zf5 z6 zf6 z7 zf7 z8 zf8 z9 zf9
                  refine bodyPost_ret (results_ct rfl _ _ W.heap.size 26 #[.int .i64 0, .int .i64 0, .int .i64 0, .int .i64 0, .int .i64 0, .int .i64 0, .int .i64 0, .int .i64 0, .int .i64 0, .slice none 0 0] (0, 0) _ rfl hblk Try.underlying26 rfl (by rfl)) rfl ?_
                  exact DecTold.no HR.out HF.below

              · have b1 : (bt S I == 81) = false := beq_eq_false_iff_ne.mpr h81
                have hmem : bt S I ∈ ([105, 115, 108, 116, 113, 114, 107, 110] : List Int) := by
                  rcases hlt with h | h | h
                  · exact absurd h h76
                  · exact absurd h h81
                  · exact h
                unfold rdecStep at hsuc
                rw [if_neg h76, if_neg h81] at hsuc
                simp only at hsuc
                clear h76 h81 hlt
                cases h4 : numsN l 1 with
                | none =>
                  rw [h4] at hsuc
                  have HR := Aside0.mk (hbad hsuc)
                  have PN := Aside0.mk (snums_no (n := 1) (N := 1) rfl (by omega) H1.out H2.out.2 H2.out.1 HS.out.2 h4)
                  clear hsuc hbad h4 hmem
                  go_wp2_with (go_at_call 42; (with_reducible refine PN.out.mono ?_); rintro e' w4 ⟨rfl, hs⟩; have H4 := Aside0.mk hs; obtain ⟨z0, zf0⟩ := sit_cell (i := 0) (v := .int .i64 0) hs.rot rfl; obtain ⟨z1, zf1⟩ := sit_cell (i := 1) (v := .int .i64 0) hs.rot rfl; obtain ⟨z2, zf2⟩ := sit_cell (i := 2) (v := .int .i64 0) hs.rot rfl; obtain ⟨z3, zf3⟩ := sit_cell (i := 3) (v := .int .i64 0) hs.rot rfl; obtain ⟨z4, zf4⟩ := sit_cell (i := 4) (v := .int .i64 0) hs.rot rfl; obtain ⟨z5, zf5⟩ := sit_cell (i := 5) (v := .int .i64 0) hs.rot rfl; obtain ⟨z6, zf6⟩ := sit_cell (i := 6) (v := .int .i64 0) hs.rot rfl; obtain ⟨z7, zf7⟩ := sit_cell (i := 7) (v := .int .i64 0) hs.rot rfl; obtain ⟨z8, zf8⟩ := sit_cell (i := 8) (v := .int .i64 0) hs.rot rfl; obtain ⟨z9, zf9⟩ := sit_cell (i := 9) (v := .slice none 0 0) hs.rot rfl; clear hs)

                  have hs := H4.out.rot
                  have HF := ((((((((((hs.set 0 (.int .i64 0)).set 1 (.int .i64 0)).set 2 (.int .i64 0)).set 3 (.int .i64 0)).set 4 (.int .i64 0)).set 5 (.int .i64 0)).set 6 (.int .i64 0)).set 7 (.int .i64 0)).set 8 (.int .i64 0)).set 9 (.slice none 0 0))
                  have hblk := HF.blk.1
                  simp only [List.setIfInBounds_toArray, List.set_cons_zero, List.set_cons_succ] at hblk
                  clear z0 zf0 z1 zf1 z2 zf2 z3 zf3 z4 zf4 z5 zf5 z6 zf6 z7 zf7 z8 zf8 z9 zf9
                  refine bodyPost_ret (results_ct rfl _ _ W.heap.size 26 #[.int .i64 0, .int .i64 0, .int .i64 0, .int .i64 0, .int .i64 0, .int .i64 0, .int .i64 0, .int .i64 0, .int .i64 0, .slice none 0 0] (0, 0) _ rfl hblk Try.underlying26 rfl (by rfl)) rfl ?_
                  exact DecTold.no HR.out HF.below

                | some p =>
                  obtain ⟨ys, l2⟩ := p
                  have hlen := numsN_len h4
                  obtain ⟨y, rfl⟩ : ∃ y, ys = [y] := by
                    match ys, hlen with
                    | [y], _ => exact ⟨y, rfl⟩
                  rw [h4] at hsuc
                  simp only [List.getD_cons_zero] at hsuc
                  have HF := Aside0.mk (numsN_bytes HS.out.2 h4).1
                  have PN := Aside0.mk (snums_yes (n := 1) (N := 1) rfl (by omega) (by omega) H1.out H2.out.2 H2.out.1 HS.out.2 h4)
                  have PP := Aside0.mk (fun W' => rput_any (n0 := n0) (n1 := n1) (n2 := n2) (n3 := n3) (n4 := n4) (n5 := n5) (n6 := n6) (n7 := n7) (n8 := n8) (bt S I) y hmem AL L.length cL W')
                  have HQ := Aside0.mk hsuc
                  clear hsuc hbad h4 hmem hlen
                  go_wp2_with (go_at_call 42; (with_reducible refine PN.out.mono ?_); rintro e' w4 ⟨g4, cv4, A2, c2, rfl, hl2, hcv4, hC2, hcell, hs⟩; have H4 := Aside0.mk hs.tail; have H5 := Aside0.mk (And.intro hl2 hC2); have d0 := hcell 0 (by simp); simp only [List.getD_cons_zero] at d0; have hcv5 : 1 ≤ cv4 := hcv4; obtain ⟨y0, yf0⟩ := sit_cell (i := 0) (v := .int .i64 n0) hs.tail rfl; obtain ⟨y1, yf1⟩ := sit_cell (i := 1) (v := .int .i64 n1) hs.tail rfl; obtain ⟨y2, yf2⟩ := sit_cell (i := 2) (v := .int .i64 n2) hs.tail rfl; obtain ⟨y3, yf3⟩ := sit_cell (i := 3) (v := .int .i64 n3) hs.tail rfl; obtain ⟨y4, yf4⟩ := sit_cell (i := 4) (v := .int .i64 n4) hs.tail rfl; obtain ⟨y5, yf5⟩ := sit_cell (i := 5) (v := .int .i64 n5) hs.tail rfl; obtain ⟨y6, yf6⟩ := sit_cell (i := 6) (v := .int .i64 n6) hs.tail rfl; obtain ⟨y7, yf7⟩ := sit_cell (i := 7) (v := .int .i64 n7) hs.tail rfl; obtain ⟨y8, yf8⟩ := sit_cell (i := 8) (v := .int .i64 n8) hs.tail rfl; obtain ⟨y9, yf9⟩ := sit_cell (i := 9) (v := .slice AL L.length cL) hs.tail rfl; clear hs hcell hl2 hC2 hcv4)
                  go_still_tail 7, (by kernel_rfl)
                  go_wp2_with (go_at_call 45; refine (PP.out _).mono ?_; rintro e' w5 ⟨m0, m1, m2, m3, m4, m5, m6, m7, m8, hm, rfl, hb⟩; clear y0 yf0 y1 yf1 y2 yf2 y3 yf3 y4 yf4 y5 yf5 y6 yf6 y7 yf7 y8 yf8 y9 yf9; have hs := H4.out.drew.behind hb; have H6 := Aside0.mk hs; have HM := Aside0.mk hm; obtain ⟨y0, yf0⟩ := sit_cell (i := 0) (v := .int .i64 n0) hs rfl; obtain ⟨y1, yf1⟩ := sit_cell (i := 1) (v := .int .i64 n1) hs rfl; obtain ⟨y2, yf2⟩ := sit_cell (i := 2) (v := .int .i64 n2) hs rfl; obtain ⟨y3, yf3⟩ := sit_cell (i := 3) (v := .int .i64 n3) hs rfl; obtain ⟨y4, yf4⟩ := sit_cell (i := 4) (v := .int .i64 n4) hs rfl; obtain ⟨y5, yf5⟩ := sit_cell (i := 5) (v := .int .i64 n5) hs rfl; obtain ⟨y6, yf6⟩ := sit_cell (i := 6) (v := .int .i64 n6) hs rfl; obtain ⟨y7, yf7⟩ := sit_cell (i := 7) (v := .int .i64 n7) hs rfl; obtain ⟨y8, yf8⟩ := sit_cell (i := 8) (v := .int .i64 n8) hs rfl; obtain ⟨y9, yf9⟩ := sit_cell (i := 9) (v := .slice AL L.length cL) hs rfl; clear hs hm hb)
                  go_roundg k1
                  case measure => omega
                  case rel =>
                    have HFF := ((((((((((H6.out.set 0 (.int .i64 m0)).set 1 (.int .i64 m1)).set 2 (.int .i64 m2)).set 3 (.int .i64 m3)).set 4 (.int .i64 m4)).set 5 (.int .i64 m5)).set 6 (.int .i64 m6)).set 7 (.int .i64 m7)).set 8 (.int .i64 m8)).set 9 (.slice AL L.length cL))
                    simp only [List.setIfInBounds_toArray, List.set_cons_zero, List.set_cons_succ] at HFF
                    exact ⟨_, j + 1, A2, AL, c2, cL, l2, m0, m1, m2, m3, m4, m5, m6, m7, m8, L, T', rfl, rfl, ⟨hw9.out, HA2.out⟩, ⟨by rw [HQ.out, HM.out], HF.out⟩, H5, ⟨HFF⟩⟩
          · have q0 : decide (I < (S.size : Int)) = false := decide_eq_false hi
            have hjm : j = S.size := by have := HA.out; omega
            have hS := HS.out.1
            rw [hjm] at hS
            have hR : refDec1 S x l0 = if l = [] then (([n0, n1, n2, n3, n4, n5, n6, n7, n8], L), 0) else (([0, 0, 0, 0, 0, 0, 0, 0, 0], []), 7) := by unfold refDec1; rw [hS]
            have hs := H1.out
            obtain ⟨z0, zf0⟩ := sit_cell (i := 0) (v := .int .i64 0) hs.rot rfl
            obtain ⟨z1, zf1⟩ := sit_cell (i := 1) (v := .int .i64 0) hs.rot rfl
            obtain ⟨z2, zf2⟩ := sit_cell (i := 2) (v := .int .i64 0) hs.rot rfl
            obtain ⟨z3, zf3⟩ := sit_cell (i := 3) (v := .int .i64 0) hs.rot rfl
            obtain ⟨z4, zf4⟩ := sit_cell (i := 4) (v := .int .i64 0) hs.rot rfl
            obtain ⟨z5, zf5⟩ := sit_cell (i := 5) (v := .int .i64 0) hs.rot rfl
            obtain ⟨z6, zf6⟩ := sit_cell (i := 6) (v := .int .i64 0) hs.rot rfl
            obtain ⟨z7, zf7⟩ := sit_cell (i := 7) (v := .int .i64 0) hs.rot rfl
            obtain ⟨z8, zf8⟩ := sit_cell (i := 8) (v := .int .i64 0) hs.rot rfl
            obtain ⟨z9, zf9⟩ := sit_cell (i := 9) (v := .slice none 0 0) hs.rot rfl
            obtain ⟨y0, yf0⟩ := sit_cell (i := 0) (v := .int .i64 n0) hs rfl
            obtain ⟨y1, yf1⟩ := sit_cell (i := 1) (v := .int .i64 n1) hs rfl
            obtain ⟨y2, yf2⟩ := sit_cell (i := 2) (v := .int .i64 n2) hs rfl
            obtain ⟨y3, yf3⟩ := sit_cell (i := 3) (v := .int .i64 n3) hs rfl
            obtain ⟨y4, yf4⟩ := sit_cell (i := 4) (v := .int .i64 n4) hs rfl
            obtain ⟨y5, yf5⟩ := sit_cell (i := 5) (v := .int .i64 n5) hs rfl
            obtain ⟨y6, yf6⟩ := sit_cell (i := 6) (v := .int .i64 n6) hs rfl
            obtain ⟨y7, yf7⟩ := sit_cell (i := 7) (v := .int .i64 n7) hs rfl
            obtain ⟨y8, yf8⟩ := sit_cell (i := 8) (v := .int .i64 n8) hs rfl
            obtain ⟨y9, yf9⟩ := sit_cell (i := 9) (v := .slice AL L.length cL) hs rfl
            clear hS hs hjm hi
            by_cases hl : l = []
            · have HR := Aside0.mk (hR.trans (if_pos hl))
              subst hl
              clear hR
              go_wp2

              have hs := H1.out.rot
              have HF := ((((((((((hs.set 0 (.int .i64 n0)).set 1 (.int .i64 n1)).set 2 (.int .i64 n2)).set 3 (.int .i64 n3)).set 4 (.int .i64 n4)).set 5 (.int .i64 n5)).set 6 (.int .i64 n6)).set 7 (.int .i64 n7)).set 8 (.int .i64 n8)).set 9 (.slice AL L.length cL))
              have hblk := HF.blk.1
              simp only [List.setIfInBounds_toArray, List.set_cons_zero, List.set_cons_succ] at hblk
              clear z0 zf0 z1 zf1 z2 zf2 z3 zf3 z4 zf4 z5 zf5 z6 zf6 z7 zf7 z8 zf8 z9 zf9
              clear y0 yf0 y1 yf1 y2 yf2 y3 yf3 y4 yf4 y5 yf5 y6 yf6 y7 yf7 y8 yf8 y9 yf9
              refine bodyPost_ret (results_ct rfl _ _ W.heap.size 26 #[.int .i64 n0, .int .i64 n1, .int .i64 n2, .int .i64 n3, .int .i64 n4, .int .i64 n5, .int .i64 n6, .int .i64 n7, .int .i64 n8, .slice AL L.length cL] (0, 0) _ rfl hblk Try.underlying26 rfl (by rfl)) rfl ?_
              exact DecTold.yes HR.out HF.tail.swap.row93R HF.below

            · have hl2 : decide ((0 : Int) < (l.length : Int)) = true := decide_eq_true (by have : l.length ≠ 0 := fun h => hl (List.length_eq_zero_iff.1 h); omega)
              have HR := Aside0.mk (hR.trans (if_neg hl))
              have hl3 : decide (0 < l.length) = true := decide_eq_true (by have : l.length ≠ 0 := fun h => hl (List.length_eq_zero_iff.1 h); omega)
              have hl4 : (0 : Int) < (l.length : Int) := by have := of_decide_eq_true hl3; omega
              clear hl hR
              go_wp2
              clear y0 yf0 y1 yf1 y2 yf2 y3 yf3 y4 yf4 y5 yf5 y6 yf6 y7 yf7 y8 yf8 y9 yf9
              have hs := H1.out.rot
              have HF := ((((((((((hs.set 0 (.int .i64 0)).set 1 (.int .i64 0)).set 2 (.int .i64 0)).set 3 (.int .i64 0)).set 4 (.int .i64 0)).set 5 (.int .i64 0)).set 6 (.int .i64 0)).set 7 (.int .i64 0)).set 8 (.int .i64 0)).set 9 (.slice none 0 0))
              have hblk := HF.blk.1
              simp only [List.setIfInBounds_toArray, List.set_cons_zero, List.set_cons_succ] at hblk
              clear z0 zf0 z1 zf1 z2 zf2 z3 zf3 z4 zf4 z5 zf5 z6 zf6 z7 zf7 z8 zf8 z9 zf9
              refine bodyPost_ret (results_ct rfl _ _ W.heap.size 26 #[.int .i64 0, .int .i64 0, .int .i64 0, .int .i64 0, .int .i64 0, .int .i64 0, .int .i64 0, .int .i64 0, .int .i64 0, .slice none 0 0] (0, 0) _ rfl hblk Try.underlying26 rfl (by rfl)) rfl ?_
              exact DecTold.no HR.out HF.below

end Go.Proofs.Ytgdelfckhcgnhaa.Code
