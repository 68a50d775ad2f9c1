/- The iterator over a number's digits: what it hands on, round by round. No conditions beside those that each theorem states. -/
import Derived.Test.YtamgeophebillaaCodeMem
import Derived.RangeFuncBox
namespace Go.Proofs.Ytamgeophebillaa.Code
open Go.RowKit Go.Proofs.Ytamgeophebillaa.Pa Go.Proofs.YtamgeophebillaaW.PrintWords Go.Proofs.YtamgeophebillaaW.PrintLast Go.Proofs.YtamgeophebillaaW.PrintMore Go.Proofs.Ytamgeophebillaa.Range
attribute [local go_sem] Oper.semAt_some
set_option linter.unusedVariables false

/-- A number's digits. -/
def digs (n : Nat) : List Int := if n < 128 then [(n : Int)] else (((n % 128 + 128 : Nat) : Int)) :: digs (n / 128)
termination_by n
decreasing_by omega
theorem digs_small {n : Nat} (h : n < 128) : digs n = [(n : Int)] := by rw [digs, if_pos h]
theorem digs_big {n : Nat} (h : ¬ n < 128) : digs n = ((n % 128 + 128 : Nat) : Int) :: digs (n / 128) := by rw [digs, if_neg h]

theorem digs_ne (n : Nat) : 0 < (digs n).length := by rw [digs]; split <;> simp
theorem digs_more {n m : Nat} {pre : List Int} (h : digs n = pre ++ digs m) : pre.length < (digs n).length := by
  have := digs_ne m
  rw [h, List.length_append]
  omega
theorem digs_length : ∀ (j n : Nat), n < 128 ^ (j + 1) → (digs n).length ≤ j + 1
  | 0, n, h => by rw [digs_small (by simpa using h)]; simp
  | j + 1, n, h => by
    by_cases h1 : n < 128
    · rw [digs_small h1]; simp
    · rw [digs_big h1, List.length_cons]
      have := digs_length j (n / 128) (by rw [Nat.pow_succ] at h; omega)
      omega
theorem digs_ten {n : Nat} (h : n < 18446744073709551616) : (digs n).length ≤ 10 := digs_length 9 n (Nat.lt_trans h (by decide))

/-- The maker of the iterator. -/
theorem digits_any (n : Int) (w : World) : Calls Try.prog 34 #[.int .u64 n] w fun e w' => e = .returned (.func (.func 35) #[] #[.pointer (some ⟨w.heap.size, 0, none⟩)]) ∧ w' = w.alloc (.cells #[.int .u64 n] 63) := by
  go_enter Try.func34, Try.ntmps34
  go_wp2
  go_ret
  exact ⟨rfl, rfl⟩

/-- A number's box. -/
def Box (w : World) (B : Nat) (n : Nat) : Prop := w.heap[B]? = some (.cells #[.int .u64 (n : Int)] 63 (0, 0))
theorem Box.cell {w : World} {B n : Nat} (h : Box w B n) : w.cell? ⟨B, 0, none⟩ = some (.int .u64 (n : Int)) ∧ w.frozen? ⟨B, 0, none⟩ = false := by
  unfold Box at h
  exact ⟨by rw [cell_of_row _ _ _ _ _ _ h]; rfl, by simp [World.frozen?, h]⟩
theorem Box.set {w : World} {B n : Nat} (h : Box w B n) (m : Nat) : Box (w.setCell ⟨B, 0, none⟩ (.int .u64 (m : Int))) B m := by
  unfold Box at *
  rw [heap_setCell h]
  rfl

def boxLeft (w : World) (B : Nat) : Nat := (intOf ((w.cell? ⟨B, 0, none⟩).getD undef)).toNat
theorem Box.left {w : World} {B n : Nat} (h : Box w B n) : boxLeft w B = n := by
  unfold boxLeft
  rw [h.cell.1]
  simp [intOf]

set_option maxRecDepth 100000 in
set_option maxHeartbeats 8000000 in
/-- What the iterator does, in the frame of whoever runs it: M m pre W: the number that is left is m, and pre has come. -/
theorem iter_in (F : Fence) (n : Nat) (hF : F.fn 35) (hro : F.round = none) (hn : 1 ≤ n) (l B N : Nat) (hN : N < 18446744073709551616) (M : Nat → List Int → World → Prop) (K : World → Prop)
    (hM : ∀ m pre W, M m pre W → Box W B m) (hS : ∀ m m' pre W, M m pre W → M m' pre (W.setCell ⟨B, 0, none⟩ (.int .u64 (m' : Int)))) (hK : ∀ A B, K A → KeepsOthers A B → K B)
    (hY : ∀ m pre (x : Int) W, M m pre W → K W → pre.length < (digs N).length → m = N / 128 ^ pre.length → 0 ≤ x → x < 256 → YieldAt F (n - 1) Try.prog l #[.int .u8 x] W fun e W' => e = .returned (.bool true) ∧ M m (pre ++ [x]) W' ∧ K W')
    (W : World) (h0 : M N [] W) (k0 : K W) :
    CallsIn F n Try.prog 35 #[.func (.yield l) #[] #[], .pointer (some ⟨B, 0, none⟩)] W fun e W' => (∃ v, e = .returned v) ∧ (∃ m, M m (digs N) W') ∧ K W' := by
  refine callsIn_of_wp Try.func35 rfl hF ?_ hro
  simp only [Try.ntmps35, List.size_toArray, List.length_cons, List.length_nil, Nat.reduceAdd, Nat.reduceSub, Array.replicate_succ, Array.replicate_zero, List.push_toArray, List.append_toArray, List.nil_append, List.cons_append]
  gi_wp2
  gi_loopw [3] (fun _ wr => ∃ (m : Nat) (pre : List Int), m < 18446744073709551616 ∧ m = N / 128 ^ pre.length ∧ digs N = pre ++ digs m ∧ M m pre wr ∧ K wr) (fun _ wr => boxLeft wr B)
  case atStart => exact ⟨N, [], hN, by simp, rfl, h0, k0⟩
  case round =>
    obtain ⟨m, pre, hm, he, hd, hMm, hKm⟩ := hrel
    have hb := hM _ _ _ hMm
    obtain ⟨b0, b1⟩ := hb.cell
    by_cases h : m < 128
    · have hy := hY m pre (m : Int) wr hMm hKm (digs_more hd) he (by omega) (by omega)
      obtain ⟨fn, tmps, assign, body, hy, hR⟩ := hy
      have hlt : (m : Int) < 128 := by omega
      have h00 : (0 : Int) ≤ (m : Int) := by omega
      have HX := Aside0.mk (And.intro hMm (And.intro hKm (And.intro hb (And.intro hd he))))
      clear hMm hKm hb hd he hY
      gi_wp2
      refine hR.mono ?_
      rintro e W3 ⟨rfl, hM3, hK3⟩
      gi_wp2
      go_end0
      obtain ⟨hMm, hKm, hb, hd, he⟩ := HX.out
      exact ⟨⟨_, rfl⟩, ⟨m, by rw [hd, digs_small h]; exact hM3⟩, hK3⟩
    · have hy := hY m pre ((m : Int) % 128 + 128) wr hMm hKm (digs_more hd) he (by omega) (by omega)
      obtain ⟨fn, tmps, assign, body, hy, hR⟩ := hy
      have hlt : (128 : Int) ≤ (m : Int) := by omega
      have h00 : (0 : Int) ≤ (m : Int) := by omega
      have e1 : ((m : Int) % 128 + 128) = ((m % 128 + 128 : Nat) : Int) := by omega
      have E1 := Aside0.mk e1
      have e2 : ((m : Int) / 128) = ((m / 128 : Nat) : Int) := by omega
      have E2 := Aside0.mk e2
      have HX := Aside0.mk (And.intro hMm (And.intro hKm (And.intro hb (And.intro hd he))))
      clear hMm hKm hb hd he hY e1 e2
      gi_wp2
      refine hR.mono ?_
      rintro e W3 ⟨rfl, hM3, hK3⟩
      have hb3 := hM _ _ _ hM3
      obtain ⟨c0, c1⟩ := hb3.cell
      have HB3 := Aside0.mk hb3
      clear hb3
      gi_wp2
      obtain ⟨hMm, hKm, hb, hd, he⟩ := HX.out
      go_roundw
      case rel => exact ⟨m / 128, pre ++ [((m % 128 + 128 : Nat) : Int)], by omega, by rw [List.length_append, List.length_singleton, Nat.pow_succ, ← Nat.div_div_eq_div_mul, ← he], by rw [hd, digs_big h]; simp, by have := hS _ (m / 128) _ _ hM3; rw [E1.out, ← E2.out] at this; exact this, hK _ _ hK3 (KeepsOthers.setCell _ _ _)⟩
      case measure =>
        have e3 := ((Box.set (m := m / 128) HB3.out).left)
        rw [← E2.out] at e3
        rw [e3, hb.left]
        omega
end Go.Proofs.Ytamgeophebillaa.Code
