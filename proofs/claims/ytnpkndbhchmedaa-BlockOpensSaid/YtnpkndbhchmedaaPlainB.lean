/- The check of bytes as plain arithmetic, second part: eight bits at once by the table; linearity; that only nothing comes to nothing; four bytes at once. No Go in it. -/
import Derived.Test.YtnpkndbhchmedaaPlain
namespace Go.Proofs.Ytnpkndbhchmedaa.Ext
open Go

theorem stp_xor (a b : Nat) : stp (a ^^^ b) = stp a ^^^ stp b := by
  have hm := @Nat.xor_mod_two_eq_one a b
  unfold stp
  rw [Nat.xor_div_two]
  by_cases ha : a % 2 = 1 <;> by_cases hb : b % 2 = 1
  · rw [if_neg (by rw [hm]; simp [ha, hb]), if_pos ha, if_pos hb]
    rw [Nat.xor_assoc, Nat.xor_comm 2197175160, Nat.xor_assoc, Nat.xor_self, Nat.xor_zero]
  · rw [if_pos (hm.2 (by simp [ha, hb])), if_pos ha, if_neg hb]
    rw [Nat.xor_assoc, Nat.xor_comm (b / 2), ← Nat.xor_assoc]
  · rw [if_pos (hm.2 (by simp [ha, hb])), if_neg ha, if_pos hb, Nat.xor_assoc]
  · rw [if_neg (by rw [hm]; simp [ha, hb]), if_neg ha, if_neg hb]
theorem stps_xor (a b : Nat) : ∀ j, stps j (a ^^^ b) = stps j a ^^^ stps j b
  | 0 => rfl
  | j + 1 => by rw [stps_succ, stps_xor a b j, stp_xor]; rfl
theorem stps_add (i n : Nat) : ∀ j, stps (i + j) n = stps j (stps i n)
  | 0 => rfl
  | j + 1 => by rw [← Nat.add_assoc, stps_succ, stps_add i n j]; rfl
theorem stps_shift (q : Nat) : ∀ j, stps j (2 ^ j * q) = q
  | 0 => by simp [stps]
  | j + 1 => by
    rw [Nat.add_comm j 1, stps_add]
    have : stps 1 (2 ^ (1 + j) * q) = 2 ^ j * q := by
      show stp (2 ^ (1 + j) * q) = _
      unfold stp
      rw [Nat.pow_add, Nat.mul_assoc, Nat.pow_one]
      rw [if_neg (by omega)]
      omega
    rw [this, stps_shift q j]
theorem split8 (n : Nat) : n = (n % 256) ^^^ (2 ^ 8 * (n / 256)) := by
  refine Nat.eq_of_testBit_eq fun i => ?_
  have h1 := Nat.testBit_mod_two_pow n 8 i
  have h2 := @Nat.testBit_two_pow_mul 8 (n / 2 ^ 8) i
  have h3 : (n / 2 ^ 8).testBit (i - 8) = n.testBit (i - 8 + 8) := Nat.testBit_div_two_pow n (i - 8)
  rw [Nat.testBit_xor]
  show _ = ((n % 2 ^ 8).testBit i ^^ (2 ^ 8 * (n / 2 ^ 8)).testBit i)
  rw [h1, h2, h3]
  by_cases h : i < 8
  · simp [h, show ¬ 8 ≤ i by omega]
  · have e : i - 8 + 8 = i := by omega
    simp [h, show 8 ≤ i by omega, e]
/-- The table's way is the bits' way. -/
theorem byteMore_eq (n c : Nat) : byteMore n c = stps 8 (n ^^^ c) := by
  have e : n ^^^ c = ((n % 256) ^^^ c) ^^^ (2 ^ 8 * (n / 256)) := by
    conv => lhs; rw [split8 n]
    rw [Nat.xor_assoc, Nat.xor_comm _ c, ← Nat.xor_assoc]
  rw [e, stps_xor, stps_shift]; rfl

/-- Bytes of which each is the difference of two. -/
def xorL : List Int → List Int → List Int
  | a :: l, b :: m => ((a.toNat ^^^ b.toNat : Nat) : Int) :: xorL l m
  | _, _ => []
theorem byteMore_xor (n m a b : Nat) : byteMore (n ^^^ m) (a ^^^ b) = byteMore n a ^^^ byteMore m b := by
  rw [byteMore_eq, byteMore_eq, byteMore_eq, ← stps_xor]
  congr 1
  rw [Nat.xor_assoc, Nat.xor_assoc]
  congr 1
  rw [← Nat.xor_assoc, ← Nat.xor_assoc, Nat.xor_comm m a]
theorem feed_cons (n : Nat) (c : Int) (l : List Int) : feed n (c :: l) = feed (byteMore n c.toNat) l := rfl
theorem feed_xor : ∀ (a b : List Int) (n m : Nat), a.length = b.length → feed (n ^^^ m) (xorL a b) = feed n a ^^^ feed m b
  | [], [], n, m, _ => rfl
  | c :: a, d :: b, n, m, h => by
    rw [xorL, feed_cons, feed_cons, feed_cons, Int.toNat_natCast, byteMore_xor]
    exact feed_xor a b _ _ (by simpa using h)
  | [], _ :: _, _, _, h => by simp at h
  | _ :: _, [], _, _, h => by simp at h

theorem stp_zero {n : Nat} (h : n < 4294967296) (hz : stp n = 0) : n = 0 := by
  unfold stp at hz
  by_cases hp : n % 2 = 1
  · rw [if_pos hp] at hz
    have : n / 2 = 2197175160 := by
      have h1 : (n / 2 ^^^ 2197175160) ^^^ 2197175160 = 0 ^^^ 2197175160 := by rw [hz]
      rw [Nat.xor_assoc, Nat.xor_self, Nat.xor_zero, Nat.zero_xor] at h1
      exact h1
    omega
  · rw [if_neg hp] at hz
    omega
theorem stps_zero {n : Nat} (h : n < 4294967296) : ∀ j, stps j n = 0 → n = 0
  | 0, hz => hz
  | j + 1, hz => stps_zero h j (stp_zero (stps_lt h j) hz)

/-- The other way round: what there is taken off all. -/
theorem xor_all {x : Nat} (h : x < 4294967296) : x ^^^ 4294967295 = 4294967295 - x := by
  refine Nat.eq_of_testBit_eq fun i => ?_
  have h1 := Nat.testBit_two_pow_sub_succ (x := x) (n := 32) (by omega) i
  have h2 := Nat.testBit_two_pow_sub_succ (x := 0) (n := 32) (by omega) i
  rw [Nat.testBit_xor]
  have e1 : 2 ^ 32 - (x + 1) = 4294967295 - x := by omega
  have e2 : 2 ^ 32 - (0 + 1) = 4294967295 := rfl
  rw [e1] at h1
  rw [e2] at h2
  rw [h1, h2]
  by_cases hi : i < 32
  · simp [hi]
  · have : x.testBit i = false := Nat.testBit_lt_two_pow (Nat.lt_of_lt_of_le h (Nat.le_trans (by decide : 4294967296 ≤ 2 ^ 32) (Nat.pow_le_pow_right (by decide) (by omega))))
    simp [hi, this]
theorem xor_all_twice {x : Nat} : (x ^^^ 4294967295) ^^^ 4294967295 = x := by
  rw [Nat.xor_assoc, Nat.xor_self, Nat.xor_zero]

theorem okB_of {l : List Int} (h : ∀ x ∈ l, 0 ≤ x ∧ x < 256) : okB l = true := by
  simp only [okB, List.all_eq_true]
  intro x hx
  have := h x hx
  simp [this]
theorem okB_append {a b : List Int} (ha : okB a = true) (hb : okB b = true) : okB (a ++ b) = true := by
  simp only [okB, List.all_append, Bool.and_eq_true] at *
  exact ⟨ha, hb⟩
theorem okB_take {a : List Int} (ha : okB a = true) (k : Nat) : okB (a.take k) = true :=
  okB_of fun _ hx => okB_at ha (List.mem_of_mem_take hx)
theorem okB_drop {a : List Int} (ha : okB a = true) (k : Nat) : okB (a.drop k) = true :=
  okB_of fun _ hx => okB_at ha (List.mem_of_mem_drop hx)

end Go.Proofs.Ytnpkndbhchmedaa.Ext
