/- The reference's digits, numbers, bytes: what they come to. No conditions beside those that each contract states. -/
import Derived.Test.YtgdelfckhcgnhaaReqTold
import Derived.Deep.RegionWith
namespace Go.Proofs.Ytgdelfckhcgnhaa.Code
open Go.RowKit Go.Proofs.Ytgdelfckhcgnhaa.Pa Go.Proofs.YtgdelfckhcgnhaaW.PrintWords Go.Proofs.YtgdelfckhcgnhaaW.PrintLast Go.Proofs.YtgdelfckhcgnhaaW.PrintMore
set_option linter.unusedVariables false

/-- A fresh row of bytes. -/
def Fresh (w : World) (bs : List Int) (e : Ending) (w' : World) : Prop := ∃ v, e = .returned v ∧ Kd.R (Kd.int .u8) 5 w' w.heap.size (fun _ => True) v bs ∧ Below w.heap.size w w'
theorem R_one (W : World) (base : Nat) (x : Int) (hb : base ≤ W.heap.size) (ok : Nat → Prop) (hok : ok W.heap.size) : Kd.R (Kd.int .u8) 5 (W.alloc (.cells #[.int .u8 x] 5)) base ok (.slice (some ⟨W.heap.size, 0, none⟩) 1 1) [x] :=
  Kd.R_of_own (own_lit W base 5 .u8 [x] hb (by simp)) (fun k hk => by
    have : W.heap.size = k := by simpa [Value.ownBlock] using hk
    subst this
    exact hok)
set_option maxRecDepth 100000 in
set_option maxHeartbeats 8000000 in
theorem rdigits_small (h odd : Int) (w : World) (h0 : 0 ≤ h) (h1 : h < 64) (o0 : 0 ≤ odd) (o1 : odd ≤ 1) : Calls Try.prog 55 #[.int .i64 h, .int .i64 odd] w (Fresh w (digs (2 * h + odd).toNat)) := by
  have hd : digs (2 * h + odd).toNat = [2 * h + odd] := by rw [digs_small (by omega)]; congr 1; omega
  rw [hd]
  clear hd
  go_enter Try.func55, Try.ntmps55
  go_wp2
  go_ret
  exact ⟨_, rfl, R_one w _ _ (Nat.le_refl _) _ trivial, (Below.refl _ _).alloc (Nat.le_refl _) _⟩
set_option maxRecDepth 100000 in
set_option maxHeartbeats 8000000 in
theorem rdigits_big (h odd : Int) (w : World) (h0 : 64 ≤ h) (h1 : h < 9223372036854775808) (o0 : 0 ≤ odd) (o1 : odd ≤ 1) (hn : ∀ w', Calls Try.prog 36 #[.int .i64 (h / 64)] w' (Fresh w' (digs (h / 64).toNat))) (ht : (digs (h / 64).toNat).length ≤ 10) : Calls Try.prog 55 #[.int .i64 h, .int .i64 odd] w (Fresh w (digs (2 * h + odd).toNat)) := by
  have hd : digs (2 * h + odd).toNat = [2 * (h % 64) + odd + 128] ++ digs (h / 64).toNat := by
    rw [digs_big (by omega), show (2 * h + odd).toNat / 128 = (h / 64).toNat by omega]
    show _ :: _ = _ :: _
    congr 1
    omega
  rw [hd]
  clear hd
  obtain ⟨ds, hds⟩ : ∃ ds, ds = digs (h / 64).toNat := ⟨_, rfl⟩
  rw [← hds] at hn ht ⊢
  clear hds
  have HN := Aside0.mk hn
  clear hn
  go_enter Try.func55, Try.ntmps55
  go_wp2_with fail
  go_at_call 36
  refine (HN.out _).mono ?_
  rintro e w1 ⟨v, rfl, hr, hb⟩
  obtain ⟨A, c, rfl⟩ := Kd.R_slice hr
  have hC := (Kd.R_reads' hr).2.2
  have hb0 : Below w.heap.size w w1 := below_then ((Below.refl _ _).alloc (Nat.le_refl _) _) (by simp) hb
  have hR1 := Kd.R_below (R_one w w.heap.size (2 * (h % 64) + odd + 128) (Nat.le_refl _) (fun _ => True) trivial) hb
  have HX := Aside0.mk (And.intro hC (And.intro hb0 hR1))
  clear hr hb hC hb0 hR1
  go_wp2_with ((with_reducible refine gate_builtin (b := .append) (xs := #[.tmp 20, .tmp 23]) rfl ?_); at_builtin; refine Kd.R_append_row (Value.int .u8) 0 (w0 := w) (h1 := fun _ => rfl) w.heap.size rfl (.tmp 20) (.tmp 23) 22 5 (.int .u8 0) 1 rfl Try.underlying22 infoE5 rfl (by decide) _ [2 * (h % 64) + odd + 128] ds A ds.length c (fun k => True) rfl rfl (fun k hk => trivial) HX.out.2.2 HX.out.1 HX.out.2.1 HX.out.2.1.size (by simp; omega) ?_; intro v1 w2 ho hb hg hat; have HY := Aside0.mk (And.intro ho hb); clear ho hb hg hat)
  go_ret
  exact ⟨_, rfl, HY.out.1, HY.out.2⟩
theorem rdigits_num : ∀ (n : Nat), n < 9223372036854775808 → (∀ (odd : Int) (w : World), 0 ≤ odd → odd ≤ 1 → Calls Try.prog 55 #[.int .i64 n, .int .i64 odd] w (Fresh w (digs (2 * (n : Int) + odd).toNat))) := by
  intro n
  induction n using Nat.strongRecOn with
  | _ n ih =>
    intro hn odd w o0 o1
    by_cases h : n < 64
    · exact rdigits_small n odd w (by omega) (by omega) o0 o1
    · refine rdigits_big n odd w (by omega) (by omega) o0 o1 (fun w' => ?_) (digs_ten (by omega))
      have e : ((n : Int) / 64) = ((n / 64 : Nat) : Int) := by omega
      have h2 := ih (n / 64 / 2) (by omega) (by omega) ((n / 64 % 2 : Nat) : Int) w' (by omega) (by omega)
      rw [show (2 * ((n / 64 / 2 : Nat) : Int) + ((n / 64 % 2 : Nat) : Int)).toNat = n / 64 by omega] at h2
      rw [e, Int.toNat_natCast]
      obtain ⟨m, hm⟩ : ∃ m : Int, m = ((n / 64 : Nat) : Int) := ⟨_, rfl⟩
      have h0 : 0 ≤ m := by omega
      have e1 : m / 2 = ((n / 64 / 2 : Nat) : Int) := by omega
      have e2 : m % 2 = ((n / 64 % 2 : Nat) : Int) := by omega
      rw [← e1, ← e2] at h2
      have hlt : m < 9223372036854775808 := by omega
      rw [← hm]
      have H2 := Aside0.mk h2
      clear h2 e1 e2 hm e ih
      go_enter Try.func36, Try.ntmps36
      go_wp2_with (go_at_call 55; refine H2.out.mono ?_; rintro e w1 ⟨v, rfl, hr, hb⟩; have HY := Aside0.mk (And.intro hr hb); clear hr hb)
      go_ret
      exact ⟨_, rfl, HY.out.1, HY.out.2⟩
theorem rdigits_any (h odd : Int) (w : World) (h0 : 0 ≤ h) (h1 : h < 9223372036854775808) (o0 : 0 ≤ odd) (o1 : odd ≤ 1) : Calls Try.prog 55 #[.int .i64 h, .int .i64 odd] w (Fresh w (digs (2 * h + odd).toNat)) := by
  have p := rdigits_num h.toNat (by omega) odd w o0 o1
  rwa [Int.toNat_of_nonneg h0] at p
theorem rnum_any (m : Int) (w : World) (h0 : 0 ≤ m) (h1 : m < 9223372036854775808) : Calls Try.prog 36 #[.int .i64 m] w (Fresh w (digs m.toNat)) := by
  have p := rdigits_any (m / 2) (m % 2) w (by omega) (by omega) (by omega) (by omega)
  rw [show 2 * (m / 2) + m % 2 = m by omega] at p
  have H2 := Aside0.mk p
  clear p
  go_enter Try.func36, Try.ntmps36
  go_wp2_with (go_at_call 55; refine H2.out.mono ?_; rintro e w1 ⟨v, rfl, hr, hb⟩; have HY := Aside0.mk (And.intro hr hb); clear hr hb)
  go_ret
  exact ⟨_, rfl, HY.out.1, HY.out.2⟩
theorem rint_any (m : Int) (w : World) (h0 : -9223372036854775808 ≤ m) (h1 : m < 9223372036854775808) : Calls Try.prog 39 #[.int .i64 m] w (Fresh w (digs (zig m))) := by
  by_cases h : m < 0
  · have p := rdigits_any (-(m + 1)) 1 w (by omega) (by omega) (by omega) (by omega)
    rw [show (2 * (-(m + 1)) + 1).toNat = zig m by unfold zig; rw [if_pos h]; omega] at p
    have H2 := Aside0.mk p
    clear p
    go_enter Try.func39, Try.ntmps39
    go_wp2_with (go_at_call 55; refine H2.out.mono ?_; rintro e w1 ⟨v, rfl, hr, hb⟩; have HY := Aside0.mk (And.intro hr hb); clear hr hb)
    go_ret
    exact ⟨_, rfl, HY.out.1, HY.out.2⟩
  · have p := rdigits_any m 0 w (by omega) (by omega) (by omega) (by omega)
    rw [show (2 * m + 0).toNat = zig m by unfold zig; rw [if_neg h]; omega] at p
    have H2 := Aside0.mk p
    clear p
    go_enter Try.func39, Try.ntmps39
    go_wp2_with (go_at_call 55; refine H2.out.mono ?_; rintro e w1 ⟨v, rfl, hr, hb⟩; have HY := Aside0.mk (And.intro hr hb); clear hr hb)
    go_ret
    exact ⟨_, rfl, HY.out.1, HY.out.2⟩
end Go.Proofs.Ytgdelfckhcgnhaa.Code
