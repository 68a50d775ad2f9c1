/- What there is not has nothing, and takes nothing: the walks. No conditions. -/
import Derived.Test.YtamgeophebillaaCodeAwake
namespace Go.Proofs.Ytamgeophebillaa.Code
open Go.RowKit Go.Proofs.Ytamgeophebillaa.Pa Go.Proofs.YtamgeophebillaaW.PrintWords Go.Proofs.YtamgeophebillaaW.PrintLast Go.Proofs.YtamgeophebillaaW.PrintMore
set_option linter.unusedVariables false

theorem num_nil (n : Int) (w : World) : Calls Try.prog 24 #[.pointer none, .int .i64 n] w fun e w' => e = .returned (.int .i64 1) ∧ w' = w := by
  go_enter Try.func24, Try.ntmps24
  go_wp2
  go_ret
  exact ⟨rfl, rfl⟩
theorem int_nil (n : Int) (w : World) : Calls Try.prog 25 #[.pointer none, .int .i64 n] w fun e w' => e = .returned (.tuple #[]) ∧ w' = w := by
  go_enter Try.func25, Try.ntmps25
  go_wp2
  go_end0
  exact ⟨rfl, rfl⟩
theorem bytes_nil (A : Option Addr) (n c : Nat) (w : World) : Calls Try.prog 26 #[.pointer none, .slice A n c] w fun e w' => e = .returned (.int .i64 1) ∧ w' = w := by
  go_enter Try.func26, Try.ntmps26
  go_wp2
  go_ret
  exact ⟨rfl, rfl⟩
theorem all_nil (w : World) : Calls Try.prog 15 #[.pointer none] w fun e w' => e = .returned (.slice none 0 0) ∧ w' = w := by
  go_enter Try.func15, Try.ntmps15
  go_wp2
  go_ret
  exact ⟨rfl, rfl⟩
theorem look_nil (w : World) : Calls Try.prog 32 #[.pointer none] w fun e w' => e = .returned (.tuple #[.int .u64 0, .int .i64 0, .int .i64 6]) ∧ w' = w := by
  go_enter Try.func32, Try.ntmps32
  go_wp2
  go_ret3
  exact ⟨rfl, rfl⟩
theorem innum_nil (w : World) : Calls Try.prog 29 #[.pointer none] w fun e w' => e = .returned (.tuple #[.int .i64 0, .int .i64 0, .int .i64 6]) ∧ w' = w := by
  have hl := look_nil w
  go_enter Try.func29, Try.ntmps29
  go_wp2_with (go_at_call 32; refine hl.mono ?_; rintro e w1 ⟨rfl, rfl⟩)
  go_ret3
  exact ⟨rfl, rfl⟩
theorem getnum_nil (w : World) : Calls Try.prog 17 #[.pointer none] w fun e w' => e = .returned (.tuple #[.int .i64 0, .int .i64 6]) ∧ w' = w := by
  have hl := innum_nil w
  go_enter Try.func17, Try.ntmps17
  go_wp2_with (go_at_call 29; refine hl.mono ?_; rintro e w1 ⟨rfl, rfl⟩)
  go_ret2
  exact ⟨rfl, rfl⟩
theorem getint_nil (w : World) : Calls Try.prog 19 #[.pointer none] w fun e w' => e = .returned (.tuple #[.int .i64 0, .int .i64 6]) ∧ w' = w := by
  have hl := look_nil w
  go_enter Try.func19, Try.ntmps19
  go_wp2_with (go_at_call 32; refine hl.mono ?_; rintro e w1 ⟨rfl, rfl⟩)
  go_ret2
  exact ⟨rfl, rfl⟩
theorem getbytes_nil (w : World) : Calls Try.prog 21 #[.pointer none] w fun e w' => e = .returned (.tuple #[.slice none 0 0, .int .i64 6]) ∧ w' = w := by
  have hl := innum_nil w
  go_enter Try.func21, Try.ntmps21
  go_wp2_with (go_at_call 29; refine hl.mono ?_; rintro e w1 ⟨rfl, rfl⟩)
  go_ret2
  exact ⟨rfl, rfl⟩
theorem left_nil (w : World) : Calls Try.prog 23 #[.pointer none] w fun e w' => e = .returned (.int .i64 0) ∧ w' = w := by
  go_enter Try.func23, Try.ntmps23
  go_wp2
  go_ret
  exact ⟨rfl, rfl⟩
/-- What is empty, and was never made. -/
theorem Sit.zero {w0 W : World} {T : List Thing} (h : Sit w0 W T) : Sit w0 (W.alloc (.cells #[.slice none 0 0] 54)) (.inn W.heap.size [] :: T) := by
  refine h.add (t := .inn W.heap.size []) (F := fun k => k = W.heap.size) ((Below.refl _ _).alloc (Nat.le_refl _) _) ⟨fun _ => False, ⟨fun x hx => by simp at hx, none, 0, World.alloc_heap_new W _, Nat.le_refl _, by decide, ?_, fun h => h⟩, rfl, fun k hk => hk.elim⟩ (fun k hk => by subst hk; simp)
  exact fun W' _ => Kd.C_nil _ _

set_option maxRecDepth 100000 in
set_option maxHeartbeats 8000000 in
theorem codeNone_any (n : Int) (A : Option Addr) (m c : Nat) (w : World) : Calls Try.prog 7 #[.int .i64 n, .slice A m c] w fun e w' => e = .returned (.bool true) ∧ Below w.heap.size w w' := by
  by_cases hm : 600 < (m : Int)
  · go_enter Try.func7, Try.ntmps7
    go_wp2_with (go_at_call 8; refine (awake_any w).mono ?_; rintro e w1 ⟨rfl, hb⟩; have HB := Aside0.mk hb; clear hb)
    go_ret
    exact ⟨rfl, HB.out⟩
  · have hm' : (m : Int) ≤ 600 := by omega
    go_enter Try.func7, Try.ntmps7
    go_wp2_with (first | (go_at_call 8; refine (awake_any w).mono ?_; rintro e w1 ⟨rfl, hb⟩; have HB := Aside0.mk hb; have HZ := ((Sit.refl w).behind hb).zero; have p1 := sit_getnum HZ; rw [show getNum [] = ⟨0, [], 6⟩ by simp [getNum, seen, look]] at p1; clear hb HZ) | (go_at_call 24; refine (num_nil _ _).mono ?_; rintro e w2 ⟨rfl, rfl⟩) | (go_at_call 25; refine (int_nil _ _).mono ?_; rintro e w2 ⟨rfl, rfl⟩) | (go_at_call 26; refine (bytes_nil _ _ _ _).mono ?_; rintro e w2 ⟨rfl, rfl⟩))
    go_at_call 17
    refine (getnum_nil _).mono ?_
    rintro e w3 ⟨rfl, rfl⟩
    go_wp2_with (first | (go_at_call 19; refine (getint_nil _).mono ?_; rintro e w2 ⟨rfl, rfl⟩) | (go_at_call 21; refine (getbytes_nil _).mono ?_; rintro e w2 ⟨rfl, rfl⟩))
    go_at_call 17
    refine p1.mono ?_
    rintro e w4 ⟨rfl, hs⟩
    have pl := sit_left hs
    have HS := Aside0.mk hs.below
    clear hs p1
    go_wp2_with (go_at_call 15; refine (all_nil _).mono ?_; rintro e w2 ⟨rfl, rfl⟩)
    go_at_call 23
    refine (left_nil _).mono ?_
    rintro e w5 ⟨rfl, rfl⟩
    go_wp2_with fail
    go_at_call 23
    refine pl.mono ?_
    rintro e w6 ⟨rfl, rfl⟩
    go_wp2
    go_ret
    exact ⟨rfl, HS.out⟩
theorem codeNone_calls (n : Int) (A : Option Addr) (c : Nat) (l : List Int) (w : World) (h0 : (Lit.int .i64 n).wf = true) (h1 : l.length ≤ maxLen) (h2 : ∀ z ∈ l, (Lit.int .u8 z).wf = true) (h3 : Kd.C (Kd.int .u8) w A l.length l) (h4 : l.length ≤ c) : Calls Try.prog 7 #[.int .i64 n, .slice A l.length c] w fun e w' => e = .returned (.bool true) ∧ Below w.heap.size w w' := codeNone_any n A l.length c w
end Go.Proofs.Ytamgeophebillaa.Code
