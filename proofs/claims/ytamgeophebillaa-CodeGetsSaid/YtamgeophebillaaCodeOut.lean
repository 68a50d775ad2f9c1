/- What is put: a number from 0 on, a number, bytes; all that was put. No conditions beside those that each theorem states. -/
import Derived.Test.YtamgeophebillaaCodePut
import Derived.Test.YtamgeophebillaaCodeClone
namespace Go.Proofs.Ytamgeophebillaa.Code
open Go.RowKit Go.Proofs.Ytamgeophebillaa.Pa Go.Proofs.YtamgeophebillaaW.PrintWords Go.Proofs.YtamgeophebillaaW.PrintLast Go.Proofs.YtamgeophebillaaW.PrintMore Go.Proofs.Ytamgeophebillaa.Range
set_option linter.unusedVariables false

theorem put_int (q : Nat) (x : Int) (F : Nat → Prop) (bs : List Int) (w : World) (hO : Out w q F bs) (h0 : 0 ≤ x) (h1 : x < 18446744073709551616) (hl : bs.length ≤ 1099511627776) :
    Calls Try.prog 33 #[.pointer (some ⟨q, 0, none⟩), .int .u64 x] w fun e w' => e = .returned (.tuple #[]) ∧ OutTurned w q F (bs ++ digs x.toNat) w' := by
  have h := put_any q x.toNat F bs w hO (by omega) hl
  rwa [Int.toNat_of_nonneg h0] at h

set_option maxRecDepth 100000 in
set_option maxHeartbeats 8000000 in
theorem num_any (q : Nat) (n : Int) (F : Nat → Prop) (bs : List Int) (w : World) (hO : Out w q F bs) (h1 : n < 9223372036854775808) (hl : bs.length ≤ 1099511627776) :
    Calls Try.prog 24 #[.pointer (some ⟨q, 0, none⟩), .int .i64 n] w fun e w' => e = .returned (.int .i64 (if n < 0 then 1 else 0)) ∧ OutTurned w q F (if n < 0 then bs else bs ++ digs n.toNat) w' := by
  by_cases h : n < 0
  · rw [if_pos h, if_pos h]
    go_enter Try.func24, Try.ntmps24
    go_wp2
    go_ret
    exact ⟨rfl, OutTurned.refl hO⟩
  · rw [if_neg h, if_neg h]
    have h0 : 0 ≤ n := by omega
    have hp := put_int q n F bs w hO h0 (by omega) hl
    have HO := Aside0.mk (And.intro hO hl)
    clear hO hl
    go_enter Try.func24, Try.ntmps24
    go_wp2_with (go_at_call 33; refine hp.mono ?_; rintro e w1 ⟨rfl, ht⟩)
    go_ret
    exact ⟨rfl, ht⟩
/-- A number, as one from 0 on. -/
def zig (n : Int) : Nat := if n < 0 then (-(n + 1) * 2 + 1).toNat else (n * 2).toNat

set_option maxRecDepth 100000 in
set_option maxHeartbeats 8000000 in
theorem int_any (q : Nat) (n : Int) (F : Nat → Prop) (bs : List Int) (w : World) (hO : Out w q F bs) (h0 : -9223372036854775808 ≤ n) (h1 : n < 9223372036854775808) (hl : bs.length ≤ 1099511627776) :
    Calls Try.prog 25 #[.pointer (some ⟨q, 0, none⟩), .int .i64 n] w fun e w' => e = .returned (.tuple #[]) ∧ OutTurned w q F (bs ++ digs (zig n)) w' := by
  by_cases h : n < 0
  · have hp := put_int q (-(n + 1) * 2 + 1) F bs w hO (by omega) (by omega) hl
    rw [zig, if_pos h]
    have HO := Aside0.mk (And.intro hO hl)
    clear hO hl
    go_enter Try.func25, Try.ntmps25
    go_wp2_with (go_at_call 33; refine hp.mono ?_; rintro e w1 ⟨rfl, ht⟩)
    go_end0
    exact ⟨rfl, ht⟩
  · have hp := put_int q (n * 2) F bs w hO (by omega) (by omega) hl
    rw [zig, if_neg h]
    have HO := Aside0.mk (And.intro hO hl)
    clear hO hl
    have h2 : 0 ≤ n := by omega
    go_enter Try.func25, Try.ntmps25
    go_wp2_with (go_at_call 33; refine hp.mono ?_; rintro e w1 ⟨rfl, ht⟩)
    go_end0
    exact ⟨rfl, ht⟩

set_option maxRecDepth 100000 in
set_option maxHeartbeats 8000000 in
theorem bytes_any (q : Nat) (b : List Int) (A : Option Addr) (c : Nat) (F : Nat → Prop) (bs : List Int) (w : World) (hO : Out w q F bs) (hr : ∀ W', Went F w W' → Kd.C (Kd.int .u8) W' A b.length b) (hc : b.length ≤ c) (hl : bs.length ≤ 549755813888) :
    Calls Try.prog 26 #[.pointer (some ⟨q, 0, none⟩), .slice A b.length c] w fun e w' => e = .returned (.int .i64 (if 4096 < b.length then 2 else 0)) ∧ OutTurned w q F (if 4096 < b.length then bs else bs ++ (digs b.length ++ b)) w' := by
  by_cases h : 4096 < b.length
  · rw [if_pos h, if_pos h]
    have h2 : (4096 : Int) < (b.length : Int) := by omega
    go_enter Try.func26, Try.ntmps26
    go_wp2
    go_ret
    exact ⟨rfl, OutTurned.refl hO⟩
  · rw [if_neg h, if_neg h]
    have h2 : (b.length : Int) ≤ 4096 := by omega
    have h3 : (0 : Int) ≤ (b.length : Int) := by omega
    have hp := put_int q b.length F bs w hO (by omega) (by omega) (by omega)
    have hten := digs_ten (n := b.length) (by omega)
    have HO := Aside0.mk (And.intro hr (And.intro hO.lt (And.intro hl hten)))
    obtain ⟨n, hn⟩ : ∃ n, n = b.length := ⟨_, rfl⟩
    rw [← hn] at hp h2 h3 ⊢
    have HN := Aside0.mk hn
    clear hO hl hr hn h hten
    go_enter Try.func26, Try.ntmps26
    go_wp2_with (first | (go_at_call 33; refine hp.mono ?_; rintro e w1 ⟨rfl, ht⟩; obtain ⟨F1, ⟨A1, c1, h1, hR, hq1, hF1⟩, hF, hW⟩ := ht; have h10 := h1.cell.1; have h11 := h1.cell.2; have h1l := h1.lt; obtain ⟨L, hL⟩ : ∃ L, L = (bs ++ digs (n : Int).toNat).length := ⟨_, rfl⟩; rw [← hL] at h10 h1 hR; have HX := Aside0.mk (And.intro h1 (And.intro hR (And.intro hq1 (And.intro hF1 (And.intro hF (And.intro hW hL)))))); clear h1 hR hq1 hF1 hF hW hL hp) | ((with_reducible refine gate_builtin (b := .append) (xs := #[.tmp 21, .tmp 22]) rfl ?_); at_builtin; refine Kd.R_append_row (Value.int .u8) 0 (w0 := w1) (h1 := fun _ => rfl) 0 rfl (.tmp 21) (.tmp 22) 26 5 (.int .u8 0) 1 rfl Try.underlying26 infoE5 rfl (by decide) (.slice A1 L c1) (bs ++ digs (n : Int).toNat) b A n c (fun k => (F1 k ∧ k ≠ q) ∨ w1.heap.size ≤ k) rfl rfl (fun k hk => .inr hk) ?aO ?aR ⟨rfl, rfl, rfl, Nat.le_refl _, fun _ _ => rfl⟩ (Nat.zero_le _) ?aL ?_; (case aO => obtain ⟨h1, hR, _⟩ := HX.out; exact Kd.R_mono hR (fun k hk => .inl hk)); (case aR => obtain ⟨_, _, _, _, _, hW, _⟩ := HX.out; have hn := HN.out; subst hn; exact HO.out.1 _ hW); (case aL => obtain ⟨_, _, _, _, _, _, hL⟩ := HX.out; obtain ⟨_, _, hl, hten⟩ := HO.out; have hn := HN.out; rw [List.length_append, Int.toNat_natCast, hn]; omega); intro v1 w2 ho hb hg hat; obtain ⟨A2, c2, rfl⟩ := own_slice (Kd.own_of_R ho); have hq2 : w2.cell? ⟨q, 0, none⟩ = some (.slice A1 L c1) := hg.cell (a := ⟨q, 0, none⟩) h10 (fun e => (HX.out.2.1.1 q e.symm).2 rfl); have hq3 : w2.frozen? ⟨q, 0, none⟩ = false := (World.frozen?_of_block (hg.block q h1l (fun e => (HX.out.2.1.1 q e.symm).2 rfl))).trans h11; have HY := Aside0.mk (And.intro ho hg); clear ho hb hg hat))
    go_ret
    obtain ⟨h1, hR, hq1, hF1, hF, hW, hL⟩ := HX.out
    obtain ⟨ho, hg⟩ := HY.out
    subst hL
    have hst := (Out.stored (n := 0) h1 hR hq1 hF1 ho hg).after hF hW
    rw [Int.toNat_natCast, List.append_assoc] at hst
    rw [HN.out] at hst ⊢
    simp only [List.length_append] at hst ⊢
    exact ⟨rfl, hst⟩

set_option maxRecDepth 100000 in
set_option maxHeartbeats 8000000 in
theorem all_any (q : Nat) (F : Nat → Prop) (bs : List Int) (w : World) (hO : Out w q F bs) (hl : bs.length ≤ 1099511627776) :
    Calls Try.prog 15 #[.pointer (some ⟨q, 0, none⟩)] w fun e w' => ∃ v, e = .returned v ∧ Kd.R (Kd.int .u8) 5 w' w.heap.size (fun _ => True) v bs ∧ Below w.heap.size w w' := by
  obtain ⟨A, cap, h1, h2, h3, h4⟩ := hO
  obtain ⟨_, hle, hC⟩ := Kd.R_reads' h2
  have hcl := clone_any5 A cap bs w hC hle (by omega)
  obtain ⟨h10, h11⟩ := h1.cell
  have HX := Aside0.mk (And.intro h1 (And.intro h2 (And.intro h3 h4)))
  clear h1 h2 h3 h4 hC hl hle
  go_enter Try.func15, Try.ntmps15
  go_wp2_with (go_at_call 28; refine hcl.mono ?_; rintro e w1 ⟨v, rfl, hv, hb⟩)
  go_ret
  exact ⟨_, rfl, hv, hb⟩
end Go.Proofs.Ytamgeophebillaa.Code
