/- Plain laws of digits: what is put is seen, and what is seen would be put so. No program in sight. -/
import Derived.Test.YtamgeophebillaaCodeOut
import Derived.Test.YtamgeophebillaaCodeIn
namespace Go.Proofs.Ytamgeophebillaa.Code
set_option linter.unusedVariables false

theorem mul_pow_step (m n k : Nat) : m + n % 128 * 128 ^ k + n / 128 * 128 ^ (k + 1) = m + n * 128 ^ k := by
  have h := Nat.div_add_mod n 128
  have : n * 128 ^ k = (128 * (n / 128) + n % 128) * 128 ^ k := by rw [h]
  rw [this, Nat.add_mul, Nat.pow_succ, Nat.mul_comm 128 (n / 128), Nat.mul_assoc, Nat.mul_comm (128 ^ k) 128]
  omega
theorem pow_nine : (128 : Nat) ^ 9 = 9223372036854775808 := by decide
/-- What was put is seen. -/
theorem look_digs (rest : List Int) : ∀ (n k m : Nat), k ≤ 9 → n * 128 ^ k < 18446744073709551616 → (0 < k → 0 < n) → look k m (digs n ++ rest) = ⟨m + n * 128 ^ k, k + (digs n).length, 0⟩ := by
  intro n
  induction n using Nat.strongRecOn with
  | _ n ih =>
    intro k m hk hb h0
    by_cases h : n < 128
    · rw [digs_small h]
      show look k m ((n : Int) :: rest) = _
      rw [look, if_neg, if_neg (by omega), if_neg (by omega), Int.toNat_natCast]
      · rfl
      · rintro ⟨rfl, h1⟩
        rw [pow_nine] at hb
        omega
    · rw [digs_big h]
      have hk8 : k ≤ 8 := by
        rcases Nat.lt_or_ge k 9 with h9 | h9
        · omega
        · have : k = 9 := by omega
          subst this
          rw [pow_nine] at hb
          omega
      show look k m (((n % 128 + 128 : Nat) : Int) :: (digs (n / 128) ++ rest)) = _
      have e1 : (((n % 128 + 128 : Nat) : Int) - 128).toNat = n % 128 := by omega
      have e2 := mul_pow_step 0 n k
      have e3 : n / 128 * 128 ^ (k + 1) < 18446744073709551616 := by
        refine Nat.lt_of_le_of_lt ?_ hb
        rw [Nat.zero_add, Nat.zero_add] at e2
        exact e2 ▸ Nat.le_add_left _ _
      have e4 := ih (n / 128) (by omega) (k + 1) (m + n % 128 * 128 ^ k) (by omega) e3 (fun _ => by omega)
      rw [look, if_neg (fun h => by have := h.1; omega), if_pos (by omega), e1, e4, mul_pow_step]
      rw [List.length_cons, show k + 1 + (digs (n / 128)).length = k + ((digs (n / 128)).length + 1) by omega]
/-- What is seen would be put so. -/
theorem digs_look : ∀ (bs : List Int) (k m : Nat), Bytes bs → (look k m bs).e = 0 → ∃ n, (look k m bs).n = m + n * 128 ^ k ∧ k < (look k m bs).long ∧ (look k m bs).long ≤ k + bs.length ∧ digs n = bs.take ((look k m bs).long - k) ∧ (0 < k → 0 < n)
  | [], k, m, hb, he => by simp [look] at he
  | d :: r, k, m, hb, he => by
    have hd := hb d (by simp)
    rw [look] at he ⊢
    by_cases h1 : k = 9 ∧ 1 < d
    · rw [if_pos h1] at he; cases he
    · rw [if_neg h1] at he ⊢
      by_cases h2 : 128 ≤ d
      · rw [if_pos h2] at he ⊢
        obtain ⟨n, e1, e2, e3, e4, e5⟩ := digs_look r (k + 1) _ (fun x hx => hb x (by simp [hx])) he
        have hn := e5 (by omega)
        have em : ((d - 128).toNat + 128 * n) % 128 = (d - 128).toNat := by omega
        have ed : ((d - 128).toNat + 128 * n) / 128 = n := by omega
        refine ⟨(d - 128).toNat + 128 * n, ?_, by omega, by rw [List.length_cons]; omega, ?_, fun _ => by omega⟩
        · rw [e1]
          have := mul_pow_step m ((d - 128).toNat + 128 * n) k
          rw [em, ed] at this
          exact this
        · rw [digs_big (by omega), em, ed, e4]
          obtain ⟨L, hL⟩ : ∃ L, (look (k + 1) (m + (d - 128).toNat * 128 ^ k) r).long = L := ⟨_, rfl⟩
          rw [hL] at e2 ⊢
          rw [show L - k = (L - (k + 1)) + 1 by omega, List.take_succ_cons]
          congr 1
          omega
      · rw [if_neg h2] at he ⊢
        by_cases h3 : d = 0 ∧ 0 < k
        · rw [if_pos h3] at he; cases he
        · rw [if_neg h3]
          refine ⟨d.toNat, rfl, by simp, by simp, ?_, fun hk => ?_⟩
          · rw [digs_small (by omega)]
            simp only [Nat.add_sub_cancel_left]
            rw [List.take_succ_cons, List.take_zero, Int.toNat_of_nonneg hd.1]
          · rcases Int.lt_or_le 0 d with h | h
            · omega
            · exact absurd ⟨by omega, hk⟩ h3
theorem look_put {n : Nat} (hn : n < 18446744073709551616) (rest : List Int) : look 0 0 (digs n ++ rest) = ⟨n, (digs n).length, 0⟩ := by
  have := look_digs rest n 0 0 (by omega) (by simpa using hn) (fun h => by omega)
  simpa using this
theorem put_look {bs : List Int} (hb : Bytes bs) (he : (look 0 0 bs).e = 0) : digs (look 0 0 bs).n = bs.take (look 0 0 bs).long := by
  obtain ⟨n, e1, _, _, e4, _⟩ := digs_look bs 0 0 hb he
  simp only [Nat.zero_add, Nat.pow_zero, Nat.mul_one, Nat.sub_zero] at e1 e4
  rw [e1, e4]
theorem seen_put {n : Nat} (hn : n < 9223372036854775808) (rest : List Int) : seen (digs n ++ rest) = ⟨n, (digs n).length, 0⟩ := by
  unfold seen
  rw [look_put (by omega), if_neg (by simp; omega)]
theorem digs_bytes : ∀ n, Bytes (digs n) := by
  intro n
  induction n using Nat.strongRecOn with
  | _ n ih =>
    by_cases h : n < 128
    · rw [digs_small h]
      intro x hx
      simp only [List.mem_singleton] at hx
      omega
    · rw [digs_big h]
      intro x hx
      rcases List.mem_cons.1 hx with rfl | hx
      · omega
      · exact ih _ (by omega) x hx
theorem Bytes.append {a b : List Int} (ha : Bytes a) (hb : Bytes b) : Bytes (a ++ b) := fun x hx => by
  rcases List.mem_append.1 hx with h | h
  · exact ha x h
  · exact hb x h

/-! #### What is put is got -/
theorem getNum_put {n : Int} (h0 : 0 ≤ n) (h1 : n < 9223372036854775808) (rest : List Int) : getNum (digs n.toNat ++ rest) = ⟨n, rest, 0⟩ := by
  unfold getNum
  rw [seen_put (by omega), if_pos rfl]
  simp only [List.drop_left, Int.toNat_of_nonneg h0]
theorem getInt_put {n : Int} (h0 : -9223372036854775808 ≤ n) (h1 : n < 9223372036854775808) (rest : List Int) : getInt (digs (zig n) ++ rest) = ⟨n, rest, 0⟩ := by
  have hz : zig n < 18446744073709551616 := by unfold zig; split <;> omega
  unfold getInt
  rw [look_put hz, if_pos rfl]
  simp only [List.drop_left]
  congr 1
  unfold zig
  split <;> split <;> omega
theorem getBytes_put {b : List Int} (hb : b.length ≤ 4096) (rest : List Int) : getBytes (digs b.length ++ b ++ rest) = ⟨b, rest, 0⟩ := by
  unfold getBytes
  rw [List.append_assoc, seen_put (by omega), if_pos rfl]
  have h1 : ¬ 4096 < b.length := by omega
  have h2 : ¬ (digs b.length ++ (b ++ rest)).length - (digs b.length).length < b.length := by simp only [List.length_append]; omega
  simp only
  rw [if_neg h1, if_neg h2]
  congr 1
  · rw [List.take_append, List.take_of_length_le (by omega), Nat.add_sub_cancel_left, List.drop_append, List.drop_length, Nat.sub_self, List.drop_zero, List.nil_append, List.take_left]
  · rw [← List.append_assoc, show (digs b.length).length + b.length = (digs b.length ++ b).length by rw [List.length_append], List.drop_left]
end Go.Proofs.Ytamgeophebillaa.Code
