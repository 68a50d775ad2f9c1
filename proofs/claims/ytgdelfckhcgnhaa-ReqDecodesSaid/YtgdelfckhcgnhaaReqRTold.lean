/- The reference's Told: the walk. No conditions beside those that each contract states. -/
import Derived.Test.YtgdelfckhcgnhaaReqRDec
namespace Go.Proofs.Ytgdelfckhcgnhaa.Code
open Go.RowKit Go.Proofs.Ytgdelfckhcgnhaa.Pa Go.Proofs.YtgdelfckhcgnhaaW.PrintWords Go.Proofs.YtgdelfckhcgnhaaW.PrintLast Go.Proofs.YtgdelfckhcgnhaaW.PrintMore Go.Proofs.Ytgdelfckhcgnhaa.Back
set_option linter.unusedVariables false
set_option linter.unusedSimpArgs false

/-- The fifth to the front. -/
theorem Sit.front5 {w0 W : World} {a b c d f : Thing} {T : List Thing} (h : Sit w0 W (a :: b :: c :: d :: f :: T)) : Sit w0 W (f :: a :: b :: c :: d :: T) := h.perm (sh5 _ _ _ _ _ _)
theorem sint {w0 W : World} {T : List Thing} {A : Option Addr} {c : Nat} {bs : List Int} (h : Sit w0 W T) (hC : Kd.C (Kd.int .u8) w0 A bs.length bs) (hc : bs.length ≤ c) (hb : Bytes bs) :
    Calls Try.prog 44 #[.slice A bs.length c] W fun e w' => ∃ A' c', e = .returned (.tuple #[.int .i64 (getInt bs).v, .slice A' (getInt bs).left.length c', .int .i64 (getInt bs).e]) ∧ (getInt bs).left.length ≤ c' ∧ Kd.C (Kd.int .u8) w0 A' (getInt bs).left.length (getInt bs).left ∧ Sit w0 w' T := by
  refine (rgetint_any A c bs W (Kd.C_below hC h.below) hc hb).mono ?_
  rintro e w' ⟨A', c', he, h1, h2, ⟨m, rfl⟩⟩
  exact ⟨A', c', he, h1, h2 w0 hC, h.drewN m⟩
def rentN (bs : List Int) : Nat → Option (List S76 × List Int)
  | 0 => some ([], bs)
  | n + 1 => match rentN bs n with
    | none => none
    | some (K, r) => match numsN r 3 with
      | none => none
      | some (xs, l) => if (getInt l).e = 0 then some (K ++ [⟨xs.getD 0 0, xs.getD 1 0, xs.getD 2 0, (getInt l).v⟩], (getInt l).left) else none
theorem rentN_succ {bs r : List Int} {K : List S76} {n : Nat} (h : rentN bs n = some (K, r)) : rentN bs (n + 1) = match numsN r 3 with | none => none | some (xs, l) => if (getInt l).e = 0 then some (K ++ [⟨xs.getD 0 0, xs.getD 1 0, xs.getD 2 0, (getInt l).v⟩], (getInt l).left) else none := by
  simp only [rentN, h]
theorem rentN_none {bs : List Int} {j : Nat} (h : rentN bs j = none) : ∀ {n : Nat}, j ≤ n → rentN bs n = none
  | 0, hj => by
    obtain rfl : j = 0 := by omega
    exact h
  | n + 1, hj => by
    rcases Nat.lt_or_ge n j with h1 | h1
    · obtain rfl : j = n + 1 := by omega
      exact h
    · simp only [rentN, rentN_none h h1]
theorem rentN_len {bs : List Int} : ∀ {n : Nat} {K : List S76} {r : List Int}, rentN bs n = some (K, r) → K.length = n
  | 0, K, r, h => by simp only [rentN, Option.some.injEq, Prod.mk.injEq] at h; rw [← h.1]; rfl
  | n + 1, K, r, h => by
    cases hn : rentN bs n with
    | none => simp only [rentN, hn] at h; cases h
    | some p =>
      obtain ⟨M, s⟩ := p
      rw [rentN_succ hn] at h
      cases h3 : numsN s 3 with
      | none => simp only [h3] at h; cases h
      | some q =>
        simp only [h3] at h
        split at h
        · simp only [Option.some.injEq, Prod.mk.injEq] at h
          rw [← h.1, List.length_append, rentN_len hn]; rfl
        · cases h
abbrev noRep : Rep × Int := (⟨0, 0, 0, [], []⟩, 7)
def refTold4 (c a b : Int) (L : List S93) (r : Option (List S76 × List Int)) : Rep × Int := match r with
  | none => noRep
  | some (K, r4) => if r4 = [] then (⟨c, a, b, L, K⟩, 0) else noRep
def refTold3 (c a b : Int) (L : List S93) (r2 : List Int) : Rep × Int := match numsN r2 1 with
  | none => noRep
  | some (ns, r3) => if 8 < ns.getD 0 0 then noRep else refTold4 c a b L (rentN r3 (ns.getD 0 0).toNat)
def refTold2 (c : Int) (r1 : List Int) : Rep × Int :=
  if (getInt r1).e ≠ 0 ∨ (getInt (getInt r1).left).e ≠ 0 then noRep else match rread (getInt (getInt r1).left).left with
  | none => noRep
  | some (L, r2) => refTold3 c (getInt r1).v (getInt (getInt r1).left).v L r2
def refTold (bs : List Int) : Rep × Int := match numsN bs 1 with
  | none => noRep
  | some (xs, r1) => if 9 < xs.getD 0 0 then noRep else refTold2 (xs.getD 0 0) r1
theorem ToldTold.no {W w' : World} {R : Rep × Int} (h : R = noRep) (hb : Below W.heap.size W w') : ToldTold W R (.returned (.tuple #[.agg #[.int .i64 0, .int .i64 0, .int .i64 0, .slice none 0 0, .slice none 0 0], .int .i64 7])) w' := by
  subst h
  exact ⟨_, _, rfl, Kd.R_nil _ _ _ _ _, Kd.R_nil _ _ _ _ _, hb⟩
theorem ToldTold.yes {W w' : World} {R : Rep × Int} {cc va vb : Int} {L : List S93} {K : List S76} {v u : Value} {T : List Thing} (h : R = (⟨cc, va, vb, L, K⟩, 0)) (hs : Sit W w' (row93 v L :: row76 u K :: T)) : ToldTold W R (.returned (.tuple #[.agg #[.int .i64 cc, .int .i64 va, .int .i64 vb, v, u], .int .i64 0])) w' := by
  subst h
  exact ToldTold.mk hs
set_option maxRecDepth 100000 in
set_option maxHeartbeats 32000000 in
theorem rtold_any (A : Option Addr) (c : Nat) (bs : List Int) (W : World) (hC : Kd.C (Kd.int .u8) W A bs.length bs) (hc : bs.length ≤ c) (hb : Bytes bs) : Calls Try.prog 21 #[.slice A bs.length c] W (ToldTold W (refTold bs)) := by
  have hA := (Sit.refl W).alloc #[.int .i64 0, .int .i64 0, .int .i64 0, .slice none 0 0, .slice none 0 0] 38
  cases h1 : numsN bs 1 with
  | none =>
    have HR : Aside0 (refTold bs = noRep) := ⟨by unfold refTold; rw [h1]⟩
    have PN := Aside0.mk (snums_no (n := 1) (N := 1) rfl (by omega) hA hC hc hb h1)
    clear hA hC hc hb h1
    go_enter Try.func21, Try.ntmps21
    go_wp2_with (go_at_call 42; (with_reducible refine PN.out.mono ?_); rintro e' w1 ⟨rfl, hs⟩; have H1 := Aside0.mk hs; obtain ⟨z0, zf0⟩ := sit_cell (i := 0) (v := .int .i64 0) hs rfl; obtain ⟨z1, zf1⟩ := sit_cell (i := 1) (v := .int .i64 0) hs rfl; obtain ⟨z2, zf2⟩ := sit_cell (i := 2) (v := .int .i64 0) hs rfl; obtain ⟨z3, zf3⟩ := sit_cell (i := 3) (v := .slice none 0 0) hs rfl; obtain ⟨z4, zf4⟩ := sit_cell (i := 4) (v := .slice none 0 0) hs rfl; clear hs)

    have hs := H1.out
    have HF := (((((hs.set 0 (.int .i64 0)).set 1 (.int .i64 0)).set 2 (.int .i64 0)).set 3 (.slice none 0 0)).set 4 (.slice none 0 0))
    have hblk := HF.blk.1
    simp only [List.setIfInBounds_toArray, List.set_cons_zero, List.set_cons_succ] at hblk
    clear z0 zf0 z1 zf1 z2 zf2 z3 zf3 z4 zf4
    refine bodyPost_ret (results_ct rfl _ _ W.heap.size 38 #[.int .i64 0, .int .i64 0, .int .i64 0, .slice none 0 0, .slice none 0 0] (0, 0) _ rfl hblk Try.underlying38 rfl (by rfl)) rfl ?_
    exact ToldTold.no (by first | exact HR.out | rfl) HF.below
  | some p =>
    obtain ⟨xs, l0⟩ := p
    have hlen := numsN_len h1
    obtain ⟨cc, rfl⟩ : ∃ x, xs = [x] := by
      match xs, hlen with
      | [x], _ => exact ⟨x, rfl⟩
    have hb0 := (numsN_bytes hb h1).1
    have PN := Aside0.mk (snums_yes (n := 1) (N := 1) rfl (by omega) (by omega) hA hC hc hb h1)
    have hH : refTold bs = if 9 < cc then noRep else refTold2 cc l0 := by unfold refTold; rw [h1]; rfl
    rw [hH]
    clear hA hC hc hb h1 hlen hH
    by_cases h9 : 9 < cc
    · have q9 : decide (9 < cc) = true := decide_eq_true h9
      have HR : Aside0 ((if 9 < cc then noRep else refTold2 cc l0) = noRep) := ⟨if_pos h9⟩
      rw [if_pos h9] at HR ⊢
      clear h9
      go_enter Try.func21, Try.ntmps21
      go_wp2_with (go_at_call 42; (with_reducible refine PN.out.mono ?_); rintro e' w1 ⟨g, cv, A1, c1, rfl, hl1, hcv, hC1, hcell, hs⟩; have H1 := Aside0.mk hs; have HC1 : Aside0 (l0.length ≤ c1 ∧ Kd.C (Kd.int .u8) W A1 l0.length l0) := ⟨hl1, hC1⟩; have d0 := hcell 0 (by simp); simp only [List.getD_cons_zero] at d0; have hcv2 : 1 ≤ cv := hcv; obtain ⟨z0, zf0⟩ := sit_cell (i := 0) (v := .int .i64 0) hs.tail rfl; obtain ⟨z1, zf1⟩ := sit_cell (i := 1) (v := .int .i64 0) hs.tail rfl; obtain ⟨z2, zf2⟩ := sit_cell (i := 2) (v := .int .i64 0) hs.tail rfl; obtain ⟨z3, zf3⟩ := sit_cell (i := 3) (v := .slice none 0 0) hs.tail rfl; obtain ⟨z4, zf4⟩ := sit_cell (i := 4) (v := .slice none 0 0) hs.tail rfl; clear hs hcell hl1 hC1 hcv)

      have hs := H1.out.tail
      have HF := (((((hs.set 0 (.int .i64 0)).set 1 (.int .i64 0)).set 2 (.int .i64 0)).set 3 (.slice none 0 0)).set 4 (.slice none 0 0))
      have hblk := HF.blk.1
      simp only [List.setIfInBounds_toArray, List.set_cons_zero, List.set_cons_succ] at hblk
      clear z0 zf0 z1 zf1 z2 zf2 z3 zf3 z4 zf4
      refine bodyPost_ret (results_ct rfl _ _ W.heap.size 38 #[.int .i64 0, .int .i64 0, .int .i64 0, .slice none 0 0, .slice none 0 0] (0, 0) _ rfl hblk Try.underlying38 rfl (by rfl)) rfl ?_
      exact ToldTold.no (by first | exact HR.out | rfl) HF.below
    · have q9 : decide (9 < cc) = false := decide_eq_false h9
      rw [if_neg h9]
      clear h9
      have hf1 := int_fits hb0
      have PI := fun (A' : Option Addr) (c' : Nat) (w' : World) (T : List Thing) (h : Sit W w' T) (hC : Kd.C (Kd.int .u8) W A' l0.length l0) (hc : l0.length ≤ c') => sint h hC hc hb0
      have hf2 := int_fits hf1.2
      have PJ := fun (A' : Option Addr) (c' : Nat) (w' : World) (T : List Thing) (h : Sit W w' T) (hC : Kd.C (Kd.int .u8) W A' (getInt l0).left.length (getInt l0).left) (hc : (getInt l0).left.length ≤ c') => sint h hC hc hf1.2
      have hb2 := hf2.2
      have hH : refTold2 cc l0 = if (getInt l0).e ≠ 0 ∨ (getInt (getInt l0).left).e ≠ 0 then noRep else match rread (getInt (getInt l0).left).left with | none => noRep | some (L, r2) => refTold3 cc (getInt l0).v (getInt (getInt l0).left).v L r2 := rfl
      rw [hH]
      clear hf1 hf2 hH
      obtain ⟨l1, hl1⟩ : ∃ l1, l1 = (getInt l0).left := ⟨_, rfl⟩
      obtain ⟨va, hva⟩ : ∃ v, v = (getInt l0).v := ⟨_, rfl⟩
      obtain ⟨E, hE⟩ : ∃ v, v = (getInt l0).e := ⟨_, rfl⟩
      simp only [← hl1, ← hva, ← hE] at PI PJ hb2 ⊢
      obtain ⟨l2, hl2⟩ : ∃ l2, l2 = (getInt l1).left := ⟨_, rfl⟩
      obtain ⟨vb, hvb⟩ : ∃ v, v = (getInt l1).v := ⟨_, rfl⟩
      obtain ⟨F, hF⟩ : ∃ v, v = (getInt l1).e := ⟨_, rfl⟩
      simp only [← hl2, ← hvb, ← hF] at PJ hb2 ⊢
      have PI1 := Aside0.mk PI
      have PJ1 := Aside0.mk PJ
      have HB0 := Aside0.mk (And.intro hb0 hb2)
      clear PI PJ hl1 hva hE hl2 hvb hF hb0 hb2
      by_cases he : E = 0
      case neg =>
        have e0 : (E != 0) = true := by simp [he]
        have HR : Aside0 ((if E ≠ 0 ∨ F ≠ 0 then noRep else match rread l2 with | none => noRep | some (L, r2) => refTold3 cc va vb L r2) = noRep) := ⟨if_pos (.inl he)⟩
        rw [if_pos (.inl he)] at HR ⊢
        clear he
        go_enter Try.func21, Try.ntmps21
        go_wp2_with (first | (go_at_call 44; (with_reducible refine (PJ1.out A2 c2 _ _ H2.out HC2.out.2 HC2.out.1).mono ?_); rintro e' w3 ⟨A3, c3, rfl, hl3, hC3, hs⟩; have H3 := Aside0.mk hs; have HC3 : Aside0 (l2.length ≤ c3 ∧ Kd.C (Kd.int .u8) W A3 l2.length l2) := ⟨hl3, hC3⟩; obtain ⟨z0, zf0⟩ := sit_cell (i := 0) (v := .int .i64 0) hs.tail rfl; obtain ⟨z1, zf1⟩ := sit_cell (i := 1) (v := .int .i64 0) hs.tail rfl; obtain ⟨z2, zf2⟩ := sit_cell (i := 2) (v := .int .i64 0) hs.tail rfl; obtain ⟨z3, zf3⟩ := sit_cell (i := 3) (v := .slice none 0 0) hs.tail rfl; obtain ⟨z4, zf4⟩ := sit_cell (i := 4) (v := .slice none 0 0) hs.tail rfl; clear hs hl3 hC3) | (go_at_call 44; (with_reducible refine (PI1.out A1 c1 _ _ H1.out HC1.out.2 HC1.out.1).mono ?_); rintro e' w2 ⟨A2, c2, rfl, hl2, hC2, hs⟩; have H2 := Aside0.mk hs; have HC2 : Aside0 (l1.length ≤ c2 ∧ Kd.C (Kd.int .u8) W A2 l1.length l1) := ⟨hl2, hC2⟩; clear hs hl2 hC2) | (go_at_call 42; (with_reducible refine PN.out.mono ?_); rintro e' w1 ⟨g, cv, A1, c1, rfl, hl1, hcv, hC1, hcell, hs⟩; have H1 := Aside0.mk hs; have HC1 : Aside0 (l0.length ≤ c1 ∧ Kd.C (Kd.int .u8) W A1 l0.length l0) := ⟨hl1, hC1⟩; have d0 := hcell 0 (by simp); simp only [List.getD_cons_zero] at d0; have hcv2 : 1 ≤ cv := hcv; clear hs hcell hl1 hC1 hcv))

        have hs := H3.out.tail
        have HF := (((((hs.set 0 (.int .i64 0)).set 1 (.int .i64 0)).set 2 (.int .i64 0)).set 3 (.slice none 0 0)).set 4 (.slice none 0 0))
        have hblk := HF.blk.1
        simp only [List.setIfInBounds_toArray, List.set_cons_zero, List.set_cons_succ] at hblk
        clear z0 zf0 z1 zf1 z2 zf2 z3 zf3 z4 zf4
        refine bodyPost_ret (results_ct rfl _ _ W.heap.size 38 #[.int .i64 0, .int .i64 0, .int .i64 0, .slice none 0 0, .slice none 0 0] (0, 0) _ rfl hblk Try.underlying38 rfl (by rfl)) rfl ?_
        exact ToldTold.no (by first | exact HR.out | rfl) HF.below
      case pos =>
      by_cases hf : F = 0
      case neg =>
        have e0 : (E != 0) = false := by simp [he]
        have f0 : (F != 0) = true := by simp [hf]
        have HR : Aside0 ((if E ≠ 0 ∨ F ≠ 0 then noRep else match rread l2 with | none => noRep | some (L, r2) => refTold3 cc va vb L r2) = noRep) := ⟨if_pos (.inr hf)⟩
        rw [if_pos (.inr hf)] at HR ⊢
        clear he hf
        go_enter Try.func21, Try.ntmps21
        go_wp2_with (first | (go_at_call 44; (with_reducible refine (PJ1.out A2 c2 _ _ H2.out HC2.out.2 HC2.out.1).mono ?_); rintro e' w3 ⟨A3, c3, rfl, hl3, hC3, hs⟩; have H3 := Aside0.mk hs; have HC3 : Aside0 (l2.length ≤ c3 ∧ Kd.C (Kd.int .u8) W A3 l2.length l2) := ⟨hl3, hC3⟩; obtain ⟨z0, zf0⟩ := sit_cell (i := 0) (v := .int .i64 0) hs.tail rfl; obtain ⟨z1, zf1⟩ := sit_cell (i := 1) (v := .int .i64 0) hs.tail rfl; obtain ⟨z2, zf2⟩ := sit_cell (i := 2) (v := .int .i64 0) hs.tail rfl; obtain ⟨z3, zf3⟩ := sit_cell (i := 3) (v := .slice none 0 0) hs.tail rfl; obtain ⟨z4, zf4⟩ := sit_cell (i := 4) (v := .slice none 0 0) hs.tail rfl; clear hs hl3 hC3) | (go_at_call 44; (with_reducible refine (PI1.out A1 c1 _ _ H1.out HC1.out.2 HC1.out.1).mono ?_); rintro e' w2 ⟨A2, c2, rfl, hl2, hC2, hs⟩; have H2 := Aside0.mk hs; have HC2 : Aside0 (l1.length ≤ c2 ∧ Kd.C (Kd.int .u8) W A2 l1.length l1) := ⟨hl2, hC2⟩; clear hs hl2 hC2) | (go_at_call 42; (with_reducible refine PN.out.mono ?_); rintro e' w1 ⟨g, cv, A1, c1, rfl, hl1, hcv, hC1, hcell, hs⟩; have H1 := Aside0.mk hs; have HC1 : Aside0 (l0.length ≤ c1 ∧ Kd.C (Kd.int .u8) W A1 l0.length l0) := ⟨hl1, hC1⟩; have d0 := hcell 0 (by simp); simp only [List.getD_cons_zero] at d0; have hcv2 : 1 ≤ cv := hcv; clear hs hcell hl1 hC1 hcv))

        have hs := H3.out.tail
        have HF := (((((hs.set 0 (.int .i64 0)).set 1 (.int .i64 0)).set 2 (.int .i64 0)).set 3 (.slice none 0 0)).set 4 (.slice none 0 0))
        have hblk := HF.blk.1
        simp only [List.setIfInBounds_toArray, List.set_cons_zero, List.set_cons_succ] at hblk
        clear z0 zf0 z1 zf1 z2 zf2 z3 zf3 z4 zf4
        refine bodyPost_ret (results_ct rfl _ _ W.heap.size 38 #[.int .i64 0, .int .i64 0, .int .i64 0, .slice none 0 0, .slice none 0 0] (0, 0) _ rfl hblk Try.underlying38 rfl (by rfl)) rfl ?_
        exact ToldTold.no (by first | exact HR.out | rfl) HF.below
      case pos =>
      have e0 : (E != 0) = false := by simp [he]
      have f0 : (F != 0) = false := by simp [hf]
      rw [if_neg (by rintro (h | h); exact h he; exact h hf)]
      clear he hf
      cases h4 : rread l2 with
      | none =>
        have HR : Aside0 (noRep = noRep) := ⟨rfl⟩
        have PR : Aside0 (∀ (A' : Option Addr) (c' : Nat) (w' : World) (T : List Thing), Sit W w' T → Kd.C (Kd.int .u8) W A' l2.length l2 → l2.length ≤ c' → Calls Try.prog 43 #[.slice A' l2.length c'] w' (fun e w'' => e = .returned (.tuple #[.slice none 0 0, .slice none 0 0, .bool false]) ∧ Sit W w'' T)) := ⟨fun A' c' w' T h hC hc => by have := rread_any h hC hc HB0.out.2; rw [h4] at this; exact this⟩
        clear h4
        go_enter Try.func21, Try.ntmps21
        go_wp2_with (first | (go_at_call 43; (with_reducible refine (PR.out A3 c3 _ _ H3.out HC3.out.2 HC3.out.1).mono ?_); rintro e' w4 ⟨rfl, hs⟩; have H4 := Aside0.mk hs; obtain ⟨z0, zf0⟩ := sit_cell (i := 0) (v := .int .i64 0) hs.tail rfl; obtain ⟨z1, zf1⟩ := sit_cell (i := 1) (v := .int .i64 0) hs.tail rfl; obtain ⟨z2, zf2⟩ := sit_cell (i := 2) (v := .int .i64 0) hs.tail rfl; obtain ⟨z3, zf3⟩ := sit_cell (i := 3) (v := .slice none 0 0) hs.tail rfl; obtain ⟨z4, zf4⟩ := sit_cell (i := 4) (v := .slice none 0 0) hs.tail rfl; clear hs) | (go_at_call 44; (with_reducible refine (PJ1.out A2 c2 _ _ H2.out HC2.out.2 HC2.out.1).mono ?_); rintro e' w3 ⟨A3, c3, rfl, hl3, hC3, hs⟩; have H3 := Aside0.mk hs; have HC3 : Aside0 (l2.length ≤ c3 ∧ Kd.C (Kd.int .u8) W A3 l2.length l2) := ⟨hl3, hC3⟩; clear hs hl3 hC3) | (go_at_call 44; (with_reducible refine (PI1.out A1 c1 _ _ H1.out HC1.out.2 HC1.out.1).mono ?_); rintro e' w2 ⟨A2, c2, rfl, hl2, hC2, hs⟩; have H2 := Aside0.mk hs; have HC2 : Aside0 (l1.length ≤ c2 ∧ Kd.C (Kd.int .u8) W A2 l1.length l1) := ⟨hl2, hC2⟩; clear hs hl2 hC2) | (go_at_call 42; (with_reducible refine PN.out.mono ?_); rintro e' w1 ⟨g, cv, A1, c1, rfl, hl1, hcv, hC1, hcell, hs⟩; have H1 := Aside0.mk hs; have HC1 : Aside0 (l0.length ≤ c1 ∧ Kd.C (Kd.int .u8) W A1 l0.length l0) := ⟨hl1, hC1⟩; have d0 := hcell 0 (by simp); simp only [List.getD_cons_zero] at d0; have hcv2 : 1 ≤ cv := hcv; clear hs hcell hl1 hC1 hcv))

        have hs := H4.out.tail
        have HF := (((((hs.set 0 (.int .i64 0)).set 1 (.int .i64 0)).set 2 (.int .i64 0)).set 3 (.slice none 0 0)).set 4 (.slice none 0 0))
        have hblk := HF.blk.1
        simp only [List.setIfInBounds_toArray, List.set_cons_zero, List.set_cons_succ] at hblk
        clear z0 zf0 z1 zf1 z2 zf2 z3 zf3 z4 zf4
        refine bodyPost_ret (results_ct rfl _ _ W.heap.size 38 #[.int .i64 0, .int .i64 0, .int .i64 0, .slice none 0 0, .slice none 0 0] (0, 0) _ rfl hblk Try.underlying38 rfl (by rfl)) rfl ?_
        exact ToldTold.no (by first | exact HR.out | rfl) HF.below
      | some p =>
        obtain ⟨L, r2⟩ := p
        have hb3 := rread_bytes HB0.out.2 h4
        have PR : Aside0 (∀ (A' : Option Addr) (c' : Nat) (w' : World) (T : List Thing), Sit W w' T → Kd.C (Kd.int .u8) W A' l2.length l2 → l2.length ≤ c' → Calls Try.prog 43 #[.slice A' l2.length c'] w' (fun e w'' => ∃ v A1 c1, e = .returned (.tuple #[v, .slice A1 r2.length c1, .bool true]) ∧ r2.length ≤ c1 ∧ Kd.C (Kd.int .u8) W A1 r2.length r2 ∧ Sit W w'' (row93 v L :: T))) := ⟨fun A' c' w' T h hC hc => by have := rread_any h hC hc HB0.out.2; rw [h4] at this; exact this⟩
        show Calls Try.prog 21 _ W (ToldTold W (refTold3 cc va vb L r2))
        clear h4
        cases h5 : numsN r2 1 with
        | none =>
          have HR : Aside0 (refTold3 cc va vb L r2 = noRep) := ⟨by unfold refTold3; rw [h5]⟩
          have PM : Aside0 (∀ (A' : Option Addr) (c' : Nat) (w' : World) (T : List Thing), Sit W w' T → Kd.C (Kd.int .u8) W A' r2.length r2 → r2.length ≤ c' → Calls Try.prog 42 #[.slice A' r2.length c', .int .i64 1] w' fun e w' => e = .returned (.tuple #[.slice none 0 0, .slice none 0 0, .bool false]) ∧ Sit W w' T) := ⟨fun A' c' w' T h hC hc => snums_no (n := 1) (N := 1) rfl (by omega) h hC hc hb3 h5⟩
          clear h5 hb3
          go_enter Try.func21, Try.ntmps21
          go_wp2_with (first | (go_at_call 42; (with_reducible refine (PM.out A4 c4 _ _ H5.out HC4.out.2 HC4.out.1).mono ?_); rintro e' w5 ⟨rfl, hs⟩; have H6 := Aside0.mk hs; obtain ⟨z0, zf0⟩ := sit_cell (i := 0) (v := .int .i64 0) hs.tail.tail.tail.tail rfl; obtain ⟨z1, zf1⟩ := sit_cell (i := 1) (v := .int .i64 0) hs.tail.tail.tail.tail rfl; obtain ⟨z2, zf2⟩ := sit_cell (i := 2) (v := .int .i64 0) hs.tail.tail.tail.tail rfl; obtain ⟨z3, zf3⟩ := sit_cell (i := 3) (v := .slice none 0 0) hs.tail.tail.tail.tail rfl; obtain ⟨z4, zf4⟩ := sit_cell (i := 4) (v := .slice none 0 0) hs.tail.tail.tail.tail rfl; clear hs) | (go_at_call 43; (with_reducible refine (PR.out A3 c3 _ _ H3.out HC3.out.2 HC3.out.1).mono ?_); rintro e' w4 ⟨v4, A4, c4, rfl, hl4, hC4, hs⟩; obtain ⟨AL, cL, rfl⟩ := own_slice (sit_own93 hs); have H4 := Aside0.mk hs; have d4 := sit_rowI2 hs.tail 0 (by simp); simp only [List.getD_cons_zero] at d4; have HC4 : Aside0 (r2.length ≤ c4 ∧ Kd.C (Kd.int .u8) W A4 r2.length r2) := ⟨hl4, hC4⟩; have H5 := Aside0.mk ((sit_nil76 hs).alloc #[.int .i64 cc, .int .i64 va, .int .i64 vb, .slice AL L.length cL, .slice none 0 0] 38); clear hs hl4 hC4) | (go_at_call 44; (with_reducible refine (PJ1.out A2 c2 _ _ H2.out HC2.out.2 HC2.out.1).mono ?_); rintro e' w3 ⟨A3, c3, rfl, hl3, hC3, hs⟩; have H3 := Aside0.mk hs; have HC3 : Aside0 (l2.length ≤ c3 ∧ Kd.C (Kd.int .u8) W A3 l2.length l2) := ⟨hl3, hC3⟩; clear hs hl3 hC3) | (go_at_call 44; (with_reducible refine (PI1.out A1 c1 _ _ H1.out HC1.out.2 HC1.out.1).mono ?_); rintro e' w2 ⟨A2, c2, rfl, hl2, hC2, hs⟩; have H2 := Aside0.mk hs; have HC2 : Aside0 (l1.length ≤ c2 ∧ Kd.C (Kd.int .u8) W A2 l1.length l1) := ⟨hl2, hC2⟩; clear hs hl2 hC2) | (go_at_call 42; (with_reducible refine PN.out.mono ?_); rintro e' w1 ⟨g, cv, A1, c1, rfl, hl1, hcv, hC1, hcell, hs⟩; have H1 := Aside0.mk hs; have HC1 : Aside0 (l0.length ≤ c1 ∧ Kd.C (Kd.int .u8) W A1 l0.length l0) := ⟨hl1, hC1⟩; have d0 := hcell 0 (by simp); simp only [List.getD_cons_zero] at d0; have hcv2 : 1 ≤ cv := hcv; clear hs hcell hl1 hC1 hcv))

          have hs := H6.out.tail.tail.tail.tail
          have HF := (((((hs.set 0 (.int .i64 0)).set 1 (.int .i64 0)).set 2 (.int .i64 0)).set 3 (.slice none 0 0)).set 4 (.slice none 0 0))
          have hblk := HF.blk.1
          simp only [List.setIfInBounds_toArray, List.set_cons_zero, List.set_cons_succ] at hblk
          clear z0 zf0 z1 zf1 z2 zf2 z3 zf3 z4 zf4
          refine bodyPost_ret (results_ct rfl _ _ W.heap.size 38 #[.int .i64 0, .int .i64 0, .int .i64 0, .slice none 0 0, .slice none 0 0] (0, 0) _ rfl hblk Try.underlying38 rfl (by rfl)) rfl ?_
          exact ToldTold.no (by first | exact HR.out | rfl) HF.below
        | some p =>
          obtain ⟨ns, r3⟩ := p
          have hlen := numsN_len h5
          obtain ⟨x, rfl⟩ : ∃ x, ns = [x] := by
            match ns, hlen with
            | [x], _ => exact ⟨x, rfl⟩
          have hbl := numsN_bytes hb3 h5
          have hx := (hbl.2 x (by simp))
          have PM : Aside0 (∀ (A' : Option Addr) (c' : Nat) (w' : World) (T : List Thing), Sit W w' T → Kd.C (Kd.int .u8) W A' r2.length r2 → r2.length ≤ c' → Calls Try.prog 42 #[.slice A' r2.length c', .int .i64 1] w' fun e w' => ∃ g cv A' c', e = .returned (.tuple #[.slice (some ⟨g, 0, none⟩) 1 cv, .slice A' r3.length c', .bool true]) ∧ r3.length ≤ c' ∧ 1 ≤ cv ∧ Kd.C (Kd.int .u8) W A' r3.length r3 ∧ (∀ i, i < 1 → w'.cell? ⟨g, i, none⟩ = some (.int .i64 ([x].getD i 0))) ∧ Sit W w' (rowI (.slice (some ⟨g, 0, none⟩) 1 cv) [x] :: T)) := ⟨fun A' c' w' T h hC hc => snums_yes (n := 1) (N := 1) rfl (by omega) (by omega) h hC hc hb3 h5⟩
          have hH : refTold3 cc va vb L r2 = if 8 < x then noRep else refTold4 cc va vb L (rentN r3 x.toNat) := by unfold refTold3; rw [h5]; rfl
          rw [hH]
          have HB3 := Aside0.mk hbl.1
          clear h5 hb3 hH hbl hlen
          by_cases h8 : 8 < x
          · have q8 : decide (8 < x) = true := decide_eq_true h8
            have HR : Aside0 ((if 8 < x then noRep else refTold4 cc va vb L (rentN r3 x.toNat)) = noRep) := ⟨if_pos h8⟩
            rw [if_pos h8] at HR ⊢
            clear h8 hx
            go_enter Try.func21, Try.ntmps21
            go_wp2_with (first | (go_at_call 42; (with_reducible refine (PM.out A4 c4 _ _ H5.out HC4.out.2 HC4.out.1).mono ?_); rintro e' w5 ⟨g5, cv5, A5, c5, rfl, hl5, hcv5, hC5, hcell, hs⟩; have H6 := Aside0.mk hs; have HC5 : Aside0 (r3.length ≤ c5 ∧ Kd.C (Kd.int .u8) W A5 r3.length r3) := ⟨hl5, hC5⟩; have d5 := hcell 0 (by simp); simp only [List.getD_cons_zero] at d5; have hcv6 : 1 ≤ cv5 := hcv5; obtain ⟨z0, zf0⟩ := sit_cell (i := 0) (v := .int .i64 0) hs.tail.tail.tail.tail.tail rfl; obtain ⟨z1, zf1⟩ := sit_cell (i := 1) (v := .int .i64 0) hs.tail.tail.tail.tail.tail rfl; obtain ⟨z2, zf2⟩ := sit_cell (i := 2) (v := .int .i64 0) hs.tail.tail.tail.tail.tail rfl; obtain ⟨z3, zf3⟩ := sit_cell (i := 3) (v := .slice none 0 0) hs.tail.tail.tail.tail.tail rfl; obtain ⟨z4, zf4⟩ := sit_cell (i := 4) (v := .slice none 0 0) hs.tail.tail.tail.tail.tail rfl; clear hs hcell hl5 hC5 hcv5) | (go_at_call 43; (with_reducible refine (PR.out A3 c3 _ _ H3.out HC3.out.2 HC3.out.1).mono ?_); rintro e' w4 ⟨v4, A4, c4, rfl, hl4, hC4, hs⟩; obtain ⟨AL, cL, rfl⟩ := own_slice (sit_own93 hs); have H4 := Aside0.mk hs; have d4 := sit_rowI2 hs.tail 0 (by simp); simp only [List.getD_cons_zero] at d4; have HC4 : Aside0 (r2.length ≤ c4 ∧ Kd.C (Kd.int .u8) W A4 r2.length r2) := ⟨hl4, hC4⟩; have H5 := Aside0.mk ((sit_nil76 hs).alloc #[.int .i64 cc, .int .i64 va, .int .i64 vb, .slice AL L.length cL, .slice none 0 0] 38); clear hs hl4 hC4) | (go_at_call 44; (with_reducible refine (PJ1.out A2 c2 _ _ H2.out HC2.out.2 HC2.out.1).mono ?_); rintro e' w3 ⟨A3, c3, rfl, hl3, hC3, hs⟩; have H3 := Aside0.mk hs; have HC3 : Aside0 (l2.length ≤ c3 ∧ Kd.C (Kd.int .u8) W A3 l2.length l2) := ⟨hl3, hC3⟩; clear hs hl3 hC3) | (go_at_call 44; (with_reducible refine (PI1.out A1 c1 _ _ H1.out HC1.out.2 HC1.out.1).mono ?_); rintro e' w2 ⟨A2, c2, rfl, hl2, hC2, hs⟩; have H2 := Aside0.mk hs; have HC2 : Aside0 (l1.length ≤ c2 ∧ Kd.C (Kd.int .u8) W A2 l1.length l1) := ⟨hl2, hC2⟩; clear hs hl2 hC2) | (go_at_call 42; (with_reducible refine PN.out.mono ?_); rintro e' w1 ⟨g, cv, A1, c1, rfl, hl1, hcv, hC1, hcell, hs⟩; have H1 := Aside0.mk hs; have HC1 : Aside0 (l0.length ≤ c1 ∧ Kd.C (Kd.int .u8) W A1 l0.length l0) := ⟨hl1, hC1⟩; have d0 := hcell 0 (by simp); simp only [List.getD_cons_zero] at d0; have hcv2 : 1 ≤ cv := hcv; clear hs hcell hl1 hC1 hcv))

            have hs := H6.out.tail.tail.tail.tail.tail
            have HF := (((((hs.set 0 (.int .i64 0)).set 1 (.int .i64 0)).set 2 (.int .i64 0)).set 3 (.slice none 0 0)).set 4 (.slice none 0 0))
            have hblk := HF.blk.1
            simp only [List.setIfInBounds_toArray, List.set_cons_zero, List.set_cons_succ] at hblk
            clear z0 zf0 z1 zf1 z2 zf2 z3 zf3 z4 zf4
            refine bodyPost_ret (results_ct rfl _ _ W.heap.size 38 #[.int .i64 0, .int .i64 0, .int .i64 0, .slice none 0 0, .slice none 0 0] (0, 0) _ rfl hblk Try.underlying38 rfl (by rfl)) rfl ?_
            exact ToldTold.no (by first | exact HR.out | rfl) HF.below
          · have q8 : decide (8 < x) = false := decide_eq_false h8
            rw [if_neg h8]
            obtain ⟨m, hm⟩ : ∃ m, m = x.toNat := ⟨_, rfl⟩
            have HM : Aside0 (x = (m : Int) ∧ m ≤ 8) := ⟨by have := hx.2; omega⟩
            rw [← hm]
            clear h8 hm hx
            go_enter Try.func21, Try.ntmps21
            go_wp2_with (first | (go_at_call 42; (with_reducible refine (PM.out A4 c4 _ _ H5.out HC4.out.2 HC4.out.1).mono ?_); rintro e' w5 ⟨g5, cv5, A5, c5, rfl, hl5, hcv5, hC5, hcell, hs⟩; have H6 := Aside0.mk hs; have HC5 : Aside0 (r3.length ≤ c5 ∧ Kd.C (Kd.int .u8) W A5 r3.length r3) := ⟨hl5, hC5⟩; have d5 := hcell 0 (by simp); simp only [List.getD_cons_zero] at d5; have hcv6 : 1 ≤ cv5 := hcv5; clear hs hcell hl5 hC5 hcv5) | (go_at_call 43; (with_reducible refine (PR.out A3 c3 _ _ H3.out HC3.out.2 HC3.out.1).mono ?_); rintro e' w4 ⟨v4, A4, c4, rfl, hl4, hC4, hs⟩; obtain ⟨AL, cL, rfl⟩ := own_slice (sit_own93 hs); have H4 := Aside0.mk hs; have d4 := sit_rowI2 hs.tail 0 (by simp); simp only [List.getD_cons_zero] at d4; have HC4 : Aside0 (r2.length ≤ c4 ∧ Kd.C (Kd.int .u8) W A4 r2.length r2) := ⟨hl4, hC4⟩; have H5 := Aside0.mk ((sit_nil76 hs).alloc #[.int .i64 cc, .int .i64 va, .int .i64 vb, .slice AL L.length cL, .slice none 0 0] 38); clear hs hl4 hC4) | (go_at_call 44; (with_reducible refine (PJ1.out A2 c2 _ _ H2.out HC2.out.2 HC2.out.1).mono ?_); rintro e' w3 ⟨A3, c3, rfl, hl3, hC3, hs⟩; have H3 := Aside0.mk hs; have HC3 : Aside0 (l2.length ≤ c3 ∧ Kd.C (Kd.int .u8) W A3 l2.length l2) := ⟨hl3, hC3⟩; clear hs hl3 hC3) | (go_at_call 44; (with_reducible refine (PI1.out A1 c1 _ _ H1.out HC1.out.2 HC1.out.1).mono ?_); rintro e' w2 ⟨A2, c2, rfl, hl2, hC2, hs⟩; have H2 := Aside0.mk hs; have HC2 : Aside0 (l1.length ≤ c2 ∧ Kd.C (Kd.int .u8) W A2 l1.length l1) := ⟨hl2, hC2⟩; clear hs hl2 hC2) | (go_at_call 42; (with_reducible refine PN.out.mono ?_); rintro e' w1 ⟨g, cv, A1, c1, rfl, hl1, hcv, hC1, hcell, hs⟩; have H1 := Aside0.mk hs; have HC1 : Aside0 (l0.length ≤ c1 ∧ Kd.C (Kd.int .u8) W A1 l0.length l0) := ⟨hl1, hC1⟩; have d0 := hcell 0 (by simp); simp only [List.getD_cons_zero] at d0; have hcv2 : 1 ≤ cv := hcv; clear hs hcell hl1 hC1 hcv))
            have HS : Aside0 (rentN r3 0 = some ([], r3) ∧ Bytes r3) := ⟨rfl, HB3.out⟩
            have H7 := Aside0.mk (H6.out.perm ((((List.Perm.swap _ _ _).cons _).cons _).cons _ |>.cons _))
            obtain ⟨rb, hrb⟩ : ∃ rb, rb = w4.heap.size := ⟨_, rfl⟩
            rw [← hrb] at H7 ⊢
            clear hrb PN PI1 PJ1 PR PM d0 d4 d5 H1 H2 H3 H4 H5 H6 e0 f0 q9 q8 HC1 HC2 HC3 HC4
            go_loopg [18, 20, 21, 22, 23, 24, 25, 26] (m + 1) (fun kq v18 v20 v21 v22 v23 v24 v25 v26 w' => ∃ (I : Int) (j : Nat) (A1 AK : Option Addr) (c1 cK : Nat) (l : List Int) (K : List S76) (T' : List Thing), v18 = .slice A1 l.length c1 ∧ v20 = .int .i64 I ∧ Aside0 (I = (j : Int) ∧ kq + j = m + 1 ∧ j ≤ m) ∧ Aside0 (rentN r3 j = some (K, l) ∧ Bytes l) ∧ Aside0 (l.length ≤ c1 ∧ Kd.C (Kd.int .u8) W A1 l.length l) ∧ Aside0 (Sit W w' (rowI (.slice (some ⟨g5, 0, none⟩) 1 cv5) [x] :: .blk rb (.cells #[.int .i64 cc, .int .i64 va, .int .i64 vb, .slice AL L.length cL, .slice AK K.length cK] 38 (0, 0)) :: row76 (.slice AK K.length cK) K :: row93 (.slice AL L.length cL) L :: .blk W.heap.size (.cells #[.int .i64 0, .int .i64 0, .int .i64 0, .slice none 0 0, .slice none 0 0] 38 (0, 0)) :: T')))
            case atStart => exact ⟨0, 0, A5, none, c5, 0, r3, [], _, rfl, rfl, ⟨⟨rfl, rfl, Nat.zero_le _⟩⟩, HS, HC5, H7⟩
            case round =>
              clear HS HC5 H7
              obtain ⟨I, j, A1, AK, c1, cK, l, K, T', rfl, rfl, HA, HS, H2, H1⟩ := hrel
              cases gk with
              | zero => exact absurd HA.out.2 (by omega)
              | succ k1 =>
                have d0 := sit_rowI2 H1.out 0 (by simp)
                simp only [List.getD_cons_zero] at d0
                by_cases hi : I < x
                · have p1 : decide (I < x) = true := decide_eq_true hi
                  have hjn : j < m := by have := HA.out.1; have := HM.out.1; omega
                  have hw9 : Aside0 (wrap64 (I + 1) = ((j + 1 : Nat) : Int)) := ⟨by have h3 := HA.out.1; have h4 := HM.out.2; unfold wrap64; omega⟩
                  have HA2 : Aside0 (k1 + (j + 1) = m + 1 ∧ j + 1 ≤ m) := ⟨by have := HA.out; omega⟩
                  have hKl : K.length ≤ 8 := by have := rentN_len HS.out.1; have := HM.out.2; omega
                  have hsuc := rentN_succ HS.out.1
                  have hbad : rentN r3 (j + 1) = none → refTold4 cc va vb L (rentN r3 m) = noRep := fun h => by
                    rw [rentN_none h (show j + 1 ≤ m by omega)]; rfl
                  clear hi hjn
                  cases h3 : numsN l 3 with
                  | none =>
                    rw [h3] at hsuc
                    have HR := Aside0.mk (hbad hsuc)
                    have PN := Aside0.mk (snums_no (n := 3) (N := 3) rfl (by omega) H1.out H2.out.2 H2.out.1 HS.out.2 h3)
                    clear hsuc h3 hbad hKl
                    go_wp2_with (go_at_call 42; (with_reducible refine PN.out.mono ?_); rintro e' w6 ⟨rfl, hs⟩; have H3 := Aside0.mk hs; obtain ⟨z0, zf0⟩ := sit_cell (i := 0) (v := .int .i64 0) hs.tail.tail.tail.tail rfl; obtain ⟨z1, zf1⟩ := sit_cell (i := 1) (v := .int .i64 0) hs.tail.tail.tail.tail rfl; obtain ⟨z2, zf2⟩ := sit_cell (i := 2) (v := .int .i64 0) hs.tail.tail.tail.tail rfl; obtain ⟨z3, zf3⟩ := sit_cell (i := 3) (v := .slice none 0 0) hs.tail.tail.tail.tail rfl; obtain ⟨z4, zf4⟩ := sit_cell (i := 4) (v := .slice none 0 0) hs.tail.tail.tail.tail rfl; clear hs)

                    have hs := H3.out.tail.tail.tail.tail
                    have HF := (((((hs.set 0 (.int .i64 0)).set 1 (.int .i64 0)).set 2 (.int .i64 0)).set 3 (.slice none 0 0)).set 4 (.slice none 0 0))
                    have hblk := HF.blk.1
                    simp only [List.setIfInBounds_toArray, List.set_cons_zero, List.set_cons_succ] at hblk
                    clear z0 zf0 z1 zf1 z2 zf2 z3 zf3 z4 zf4
                    refine bodyPost_ret (results_ct rfl _ _ W.heap.size 38 #[.int .i64 0, .int .i64 0, .int .i64 0, .slice none 0 0, .slice none 0 0] (0, 0) _ rfl hblk Try.underlying38 rfl (by rfl)) rfl ?_
                    exact ToldTold.no (by first | exact HR.out | rfl) HF.below
                  | some p =>
                    obtain ⟨ys, l2⟩ := p
                    have hlen := numsN_len h3
                    obtain ⟨y0, y1, y2, rfl⟩ : ∃ y0 y1 y2, ys = [y0, y1, y2] := by
                      match ys, hlen with
                      | [y0, y1, y2], _ => exact ⟨y0, y1, y2, rfl⟩
                    rw [h3] at hsuc
                    simp only [List.getD_cons_zero, List.getD_cons_succ] at hsuc
                    have hb2 := (numsN_bytes HS.out.2 h3).1
                    have PN := Aside0.mk (snums_yes (n := 3) (N := 3) rfl (by omega) (by omega) H1.out H2.out.2 H2.out.1 HS.out.2 h3)
                    have pi := fun (A' : Option Addr) (c' : Nat) (w' : World) (T : List Thing) (h : Sit W w' T) (hC : Kd.C (Kd.int .u8) W A' l2.length l2) (hc : l2.length ≤ c') => sint h hC hc hb2
                    have hfit := (int_fits hb2).2
                    obtain ⟨E2, hE⟩ : ∃ E, E = (getInt l2).e := ⟨_, rfl⟩
                    obtain ⟨y3, hy⟩ : ∃ y, y = (getInt l2).v := ⟨_, rfl⟩
                    obtain ⟨l3, hl3⟩ : ∃ q, q = (getInt l2).left := ⟨_, rfl⟩
                    simp only [← hE, ← hy, ← hl3] at pi hsuc hfit
                    have PI := Aside0.mk pi
                    have HF := Aside0.mk hfit
                    have HLn := Aside0.mk hKl
                    clear h3 hlen hb2 pi hfit hE hy hl3 hKl
                    by_cases he : E2 = 0
                    · have e1 : (E2 != 0) = false := by rw [he]; rfl
                      rw [if_pos he] at hsuc
                      have HQ := Aside0.mk hsuc
                      clear he hsuc hbad
                      go_wp2_with (first | (go_at_call 44; (with_reducible refine (PI.out A6 c6 _ _ H3.out H4.out.2 H4.out.1).mono ?_); rintro e' w7 ⟨A7, c7, rfl, hl7, hC7, hs⟩; have H5 := Aside0.mk hs.tail; have H6 : Aside0 (l3.length ≤ c7 ∧ Kd.C (Kd.int .u8) W A7 l3.length l3) := ⟨hl7, hC7⟩; have x0 := sit_rowI2 hs 0 (by simp); have x1 := sit_rowI2 hs 1 (by simp); have x2 := sit_rowI2 hs 2 (by simp); simp only [List.getD_cons_zero, List.getD_cons_succ] at x0 x1 x2; obtain ⟨y4, yf4⟩ := sit_cell (i := 4) (v := .slice AK K.length cK) hs.tail.swap rfl; have hap := sit_apart76 hs.tail.tail.swap; have hbl := hs.tail.tail.blk.2.1; have HO := Aside0.mk (sit_own76 hs.tail.tail.tail); clear hs hl7 hC7) | (go_at_call 42; (with_reducible refine PN.out.mono ?_); rintro e' w6 ⟨g6, cv6, A6, c6, rfl, hl6, hcv6, hC6, hcell, hs⟩; have H3 := Aside0.mk hs; have H4 : Aside0 (l2.length ≤ c6 ∧ Kd.C (Kd.int .u8) W A6 l2.length l2) := ⟨hl6, hC6⟩; have hcv7 : 3 ≤ cv6 := hcv6; clear hs hcell hl6 hC6 hcv6))
                      clear PN PI d0
                      go_region_law (refine step_append_cells (w0 := w7) (W := w7.drew) 0 (by rfl) (.tmp 118) (.tmp 130) 36 76 (.agg #[.int .i64 0, .int .i64 0, .int .i64 0, .int .i64 0]) 4 32 (by rfl) Try.underlying36 info76 rfl (by decide) (by decide) (.slice AK K.length cK) K.length (flat76 K) (cells76 ⟨y0, y1, y2, y3⟩) (by rfl) (by rfl) rfl (by simp [cells76, Value.oneCell']) HO.out ⟨rfl, rfl, rfl, Nat.le_refl _, fun _ _ => rfl⟩ (Nat.zero_le _) (by have := HLn.out; omega) ?_; intro v1 w9 ho hb hg hat; obtain ⟨K9, hK9⟩ : ∃ K9, K9 = K ++ [(⟨y0, y1, y2, y3⟩ : S76)] := ⟨_, rfl⟩; have hn9 : K.length + 1 = K9.length := (by subst hK9; simp); obtain ⟨A9, c9, rfl⟩ := own_slice ho; have HK9 := Aside0.mk (And.intro hK9 hn9); clear hK9 hn9; have hq0 : w9.cell? ⟨rb, 4, none⟩ = some (.slice AK K.length cK) := hg.cell (a := ⟨rb, 4, none⟩) y4 hap; have hq1 : w9.frozen? ⟨rb, 4, none⟩ = false := (World.frozen?_of_block (hg.block rb hbl hap)).trans yf4; have HZ := Aside0.mk (And.intro ho (And.intro hg hat)); clear ho hg hat hb)
                      all_goals
                        go_wp2
                        go_roundg k1
                        case measure => omega
                        case rel =>
                          have hz := (((sit_append76 H5.out.rot.drew HZ.out.1 HZ.out.2.1 HZ.out.2.2).rot.set 4 (.slice A9 (K.length + 1) c9)).rot)
                          rw [← HK9.out.1] at hz
                          rw [HK9.out.2] at hz ⊢
                          exact ⟨_, j + 1, A7, A9, c7, c9, l3, K9, T', rfl, rfl, ⟨hw9.out, HA2.out⟩, ⟨by rw [HQ.out, HK9.out.1], HF.out⟩, H6, ⟨hz⟩⟩
                    · have e1 : (E2 != 0) = true := by simp [he]
                      rw [if_neg he] at hsuc
                      have HR := Aside0.mk (hbad hsuc)
                      clear he hsuc hbad
                      go_wp2_with (first | (go_at_call 44; (with_reducible refine (PI.out A6 c6 _ _ H3.out H4.out.2 H4.out.1).mono ?_); rintro e' w7 ⟨A7, c7, rfl, hl7, hC7, hs⟩; have H5 := Aside0.mk hs.tail; obtain ⟨z0, zf0⟩ := sit_cell (i := 0) (v := .int .i64 0) hs.tail.tail.tail.tail.tail rfl; obtain ⟨z1, zf1⟩ := sit_cell (i := 1) (v := .int .i64 0) hs.tail.tail.tail.tail.tail rfl; obtain ⟨z2, zf2⟩ := sit_cell (i := 2) (v := .int .i64 0) hs.tail.tail.tail.tail.tail rfl; obtain ⟨z3, zf3⟩ := sit_cell (i := 3) (v := .slice none 0 0) hs.tail.tail.tail.tail.tail rfl; obtain ⟨z4, zf4⟩ := sit_cell (i := 4) (v := .slice none 0 0) hs.tail.tail.tail.tail.tail rfl; clear hs hl7 hC7) | (go_at_call 42; (with_reducible refine PN.out.mono ?_); rintro e' w6 ⟨g6, cv6, A6, c6, rfl, hl6, hcv6, hC6, hcell, hs⟩; have H3 := Aside0.mk hs; have H4 : Aside0 (l2.length ≤ c6 ∧ Kd.C (Kd.int .u8) W A6 l2.length l2) := ⟨hl6, hC6⟩; have hcv7 : 3 ≤ cv6 := hcv6; clear hs hcell hl6 hC6 hcv6))

                      have hs := H5.out.tail.tail.tail.tail
                      have HF := (((((hs.set 0 (.int .i64 0)).set 1 (.int .i64 0)).set 2 (.int .i64 0)).set 3 (.slice none 0 0)).set 4 (.slice none 0 0))
                      have hblk := HF.blk.1
                      simp only [List.setIfInBounds_toArray, List.set_cons_zero, List.set_cons_succ] at hblk
                      clear z0 zf0 z1 zf1 z2 zf2 z3 zf3 z4 zf4
                      refine bodyPost_ret (results_ct rfl _ _ W.heap.size 38 #[.int .i64 0, .int .i64 0, .int .i64 0, .slice none 0 0, .slice none 0 0] (0, 0) _ rfl hblk Try.underlying38 rfl (by rfl)) rfl ?_
                      exact ToldTold.no (by first | exact HR.out | rfl) HF.below
                · have p1 : decide (I < x) = false := decide_eq_false hi
                  have hjm : j = m := by have := HA.out; have := HM.out; omega
                  have hS := HS.out.1
                  rw [hjm] at hS
                  have hR : refTold4 cc va vb L (rentN r3 m) = if l = [] then (⟨cc, va, vb, L, K⟩, 0) else noRep := by rw [hS]; rfl
                  have hs := H1.out
                  obtain ⟨z0, zf0⟩ := sit_cell (i := 0) (v := .int .i64 0) hs.tail.tail.tail.tail rfl
                  obtain ⟨z1, zf1⟩ := sit_cell (i := 1) (v := .int .i64 0) hs.tail.tail.tail.tail rfl
                  obtain ⟨z2, zf2⟩ := sit_cell (i := 2) (v := .int .i64 0) hs.tail.tail.tail.tail rfl
                  obtain ⟨z3, zf3⟩ := sit_cell (i := 3) (v := .slice none 0 0) hs.tail.tail.tail.tail rfl
                  obtain ⟨z4, zf4⟩ := sit_cell (i := 4) (v := .slice none 0 0) hs.tail.tail.tail.tail rfl
                  obtain ⟨y0, yf0⟩ := sit_cell (i := 0) (v := .int .i64 cc) hs.swap rfl
                  obtain ⟨y1, yf1⟩ := sit_cell (i := 1) (v := .int .i64 va) hs.swap rfl
                  obtain ⟨y2, yf2⟩ := sit_cell (i := 2) (v := .int .i64 vb) hs.swap rfl
                  obtain ⟨y3, yf3⟩ := sit_cell (i := 3) (v := .slice AL L.length cL) hs.swap rfl
                  obtain ⟨y4, yf4⟩ := sit_cell (i := 4) (v := .slice AK K.length cK) hs.swap rfl
                  clear hS hs hjm hi
                  by_cases hl : l = []
                  · have HR := Aside0.mk (hR.trans (if_pos hl))
                    subst hl
                    clear hR
                    go_wp2

                    have hs := H1.out.front5
                    have HF := (((((hs.set 0 (.int .i64 cc)).set 1 (.int .i64 va)).set 2 (.int .i64 vb)).set 3 (.slice AL L.length cL)).set 4 (.slice AK K.length cK))
                    have hblk := HF.blk.1
                    simp only [List.setIfInBounds_toArray, List.set_cons_zero, List.set_cons_succ] at hblk
                    clear z0 zf0 z1 zf1 z2 zf2 z3 zf3 z4 zf4
                    clear y0 yf0 y1 yf1 y2 yf2 y3 yf3 y4 yf4
                    refine bodyPost_ret (results_ct rfl _ _ W.heap.size 38 #[.int .i64 cc, .int .i64 va, .int .i64 vb, .slice AL L.length cL, .slice AK K.length cK] (0, 0) _ rfl hblk Try.underlying38 rfl (by rfl)) rfl ?_
                    exact ToldTold.yes HR.out HF.tail.tail.tail.swap
                  · have hl2 : decide ((0 : Int) < (l.length : Int)) = true := decide_eq_true (by have : l.length ≠ 0 := fun h => hl (List.length_eq_zero_iff.1 h); omega)
                    have HR := Aside0.mk (hR.trans (if_neg hl))
                    have hl3 : decide (0 < l.length) = true := decide_eq_true (by have : l.length ≠ 0 := fun h => hl (List.length_eq_zero_iff.1 h); omega)
                    have hl4 : (0 : Int) < (l.length : Int) := by have := of_decide_eq_true hl3; omega
                    clear hl hR
                    go_wp2
                    clear y0 yf0 y1 yf1 y2 yf2 y3 yf3 y4 yf4
                    have hs := H1.out.tail.tail.tail.tail
                    have HF := (((((hs.set 0 (.int .i64 0)).set 1 (.int .i64 0)).set 2 (.int .i64 0)).set 3 (.slice none 0 0)).set 4 (.slice none 0 0))
                    have hblk := HF.blk.1
                    simp only [List.setIfInBounds_toArray, List.set_cons_zero, List.set_cons_succ] at hblk
                    clear z0 zf0 z1 zf1 z2 zf2 z3 zf3 z4 zf4
                    refine bodyPost_ret (results_ct rfl _ _ W.heap.size 38 #[.int .i64 0, .int .i64 0, .int .i64 0, .slice none 0 0, .slice none 0 0] (0, 0) _ rfl hblk Try.underlying38 rfl (by rfl)) rfl ?_
                    exact ToldTold.no (by first | exact HR.out | rfl) HF.below
end Go.Proofs.Ytgdelfckhcgnhaa.Code
