/- What the reference's sum, seal and 'whole' come to, as the plain arithmetic has it: the law over numbers and lists. Of bytes alone (each from 0 to 255). -/
import Derived.Test.YtnpkndbhchmedaaPa3
import Derived.Test.YtnpkndbhchmedaaPlainB
import Derived.Test.YtnpkndbhchmedaaExtBlk
namespace Go.Proofs.Ytnpkndbhchmedaa.Pure
open Go.RowKit Go.Proofs.Ytnpkndbhchmedaa.Pa Go.Proofs.Ytnpkndbhchmedaa.Ext Go.Proofs.YtnpkndbhchmedaaW.PrintWords Go.Proofs.YtnpkndbhchmedaaW.PrintLast

theorem differ_l (d : Nat) : ∀ (k a b i p : Nat) (n : Int), i + d = 32 → d < k → a < 4294967296 → b < 4294967296 → p = 2 ^ i → 0 ≤ n → n < p →
    quartermasterref04_differ.l0 k a b n p i = some (n + p * (((a ^^^ b) % 2 ^ d : Nat) : Int)) := by
  induction d with
  | zero =>
    intro k a b i p n hi hk ha hb hp h0 h1
    obtain ⟨k, rfl⟩ : ∃ m, k = m + 1 := ⟨k - 1, by omega⟩
    simp only [quartermasterref04_differ.l0]
    rw [if_neg (by omega)]
    simp [Nat.mod_one]
  | succ d ih =>
    intro k a b i p n hi hk ha hb hp h0 h1
    obtain ⟨k, rfl⟩ : ∃ m, k = m + 1 := ⟨k - 1, by omega⟩
    simp only [quartermasterref04_differ.l0]
    rw [if_pos (by omega)]
    have hp32 : p ≤ 2147483648 := by
      rw [hp]
      exact Nat.le_trans (Nat.pow_le_pow_right (by decide) (by omega : i ≤ 31)) (by decide)
    have e1 : Int.tmod (a : Int) 2 = ((a % 2 : Nat) : Int) := by rw [Int.tmod_eq_emod_of_nonneg (by omega)]; rfl
    have e2 : Int.tmod (b : Int) 2 = ((b % 2 : Nat) : Int) := by rw [Int.tmod_eq_emod_of_nonneg (by omega)]; rfl
    have e3 : wrap64 (Int.tdiv (a : Int) 2) = ((a / 2 : Nat) : Int) := by rw [Int.tdiv_eq_ediv_of_nonneg (by omega)]; unfold wrap64; omega
    have e4 : wrap64 (Int.tdiv (b : Int) 2) = ((b / 2 : Nat) : Int) := by rw [Int.tdiv_eq_ediv_of_nonneg (by omega)]; unfold wrap64; omega
    have e5 : wrap64 ((p : Int) * 2) = ((p * 2 : Nat) : Int) := by unfold wrap64; omega
    have e6 : wrap64 ((i : Int) + 1) = ((i + 1 : Nat) : Int) := by unfold wrap64; omega
    have e7 : wrap64 (n + (p : Int)) = n + (p : Int) := by unfold wrap64; omega
    rw [e1, e2, e3, e4, e5, e6, e7]
    clear e1 e2 e3 e4 e5 e6 e7
    have hp2 : p * 2 = 2 ^ (i + 1) := by rw [hp, Nat.pow_succ]
    have hx := @Nat.xor_div_two a b
    have hm := @Nat.xor_mod_two_eq_one a b
    obtain ⟨x, hxx⟩ : ∃ x, x = a ^^^ b := ⟨_, rfl⟩
    rw [← hxx] at hx hm ⊢
    have hsp : x % 2 ^ (d + 1) = x % 2 + 2 * (x / 2 % 2 ^ d) := by rw [Nat.pow_succ, Nat.mul_comm, Nat.mod_mul]
    rw [hsp]
    by_cases hc : a % 2 = b % 2
    · rw [if_pos (by omega)]
      rw [ih k _ _ (i + 1) _ n (by omega) (by omega) (by omega) (by omega) hp2 h0 (by omega), ← hx]
      have : x % 2 = 0 := by
        have : ¬ x % 2 = 1 := by rw [hm]; omega
        omega
      rw [this]
      congr 1
      push_cast
      rw [Int.zero_add, Int.mul_assoc]
    · rw [if_neg (by omega)]
      rw [ih k _ _ (i + 1) _ (n + p) (by omega) (by omega) (by omega) (by omega) hp2 (by omega) (by omega), ← hx]
      have : x % 2 = 1 := by rw [hm]; omega
      rw [this]
      congr 1
      push_cast
      rw [Int.mul_add, Int.mul_one, Int.mul_assoc, Int.add_assoc]
theorem differ_f {k a b : Nat} (hk : 32 < k) (ha : a < 4294967296) (hb : b < 4294967296) : quartermasterref04_differ.f k a b = some ((a ^^^ b : Nat) : Int) := by
  unfold quartermasterref04_differ.f
  have := differ_l 32 k a b 0 1 0 rfl hk ha hb rfl (by omega) (by omega)
  rw [show ((1 : Nat) : Int) = 1 from rfl, show ((0 : Nat) : Int) = 0 from rfl] at this
  rw [this]
  have hx : a ^^^ b < 2 ^ 32 := Nat.xor_lt_two_pow (by omega) (by omega)
  rw [Nat.mod_eq_of_lt hx]
  simp

theorem bits8 (l : List Int) (i : Int) (d : Nat) : ∀ (k j n : Nat), j + d = 8 → d + 40 < k → n < 4294967296 →
    quartermasterref04_Sum.l1 k l n i j = quartermasterref04_Sum.l0 (k - d - 1) l (stps d n : Nat) (wrap64 (i + 1)) := by
  induction d with
  | zero =>
    intro k j n hj hk hn
    obtain ⟨k, rfl⟩ : ∃ m, k = m + 1 := ⟨k - 1, by omega⟩
    simp only [quartermasterref04_Sum.l1]
    rw [if_neg (by omega)]
    rfl
  | succ d ih =>
    intro k j n hj hk hn
    obtain ⟨k, rfl⟩ : ∃ m, k = m + 1 := ⟨k - 1, by omega⟩
    simp only [quartermasterref04_Sum.l1]
    rw [if_pos (by omega)]
    have e1 : Int.tmod (n : Int) 2 = ((n % 2 : Nat) : Int) := by rw [Int.tmod_eq_emod_of_nonneg (by omega)]; rfl
    have e3 : wrap64 (Int.tdiv (n : Int) 2) = ((n / 2 : Nat) : Int) := by rw [Int.tdiv_eq_ediv_of_nonneg (by omega)]; unfold wrap64; omega
    have e6 : wrap64 ((j : Int) + 1) = ((j + 1 : Nat) : Int) := by unfold wrap64; omega
    rw [e1, e3, e6]
    clear e1 e3 e6
    have hs : stps (d + 1) n = stps d (stp n) := by rw [Nat.add_comm, stps_add]; rfl
    have hk' : k + 1 - (d + 1) - 1 = k - d - 1 := by omega
    rw [hs, hk']
    by_cases hp : n % 2 = 1
    · rw [if_pos (by omega), show (2197175160 : Int) = ((2197175160 : Nat) : Int) from rfl, differ_f (by omega) (by omega) (by decide)]
      simp only [Option.bind_some]
      have : stp n = n / 2 ^^^ 2197175160 := by unfold stp; rw [if_pos hp]
      rw [← this]
      exact ih k (j + 1) _ (by omega) (by omega) (stp_lt hn)
    · rw [if_neg (by omega)]
      have : stp n = n / 2 := by unfold stp; rw [if_neg hp]
      rw [← this]
      exact ih k (j + 1) _ (by omega) (by omega) (stp_lt hn)

theorem rd_drop {l : List Int} {i : Nat} (h : i < l.length) : l.drop i = rd l i :: l.drop (i + 1) := by
  rw [List.drop_eq_getElem_cons h]; simp [rd, h]

theorem refsum_l {l : List Int} (hl : l.length ≤ 9223372036854775806) (ho : okB l = true) (d : Nat) : ∀ (k i n : Nat), i + d = l.length → 10 * d + 60 < k → n < 4294967296 →
    quartermasterref04_Sum.l0 k l n i = some ((4294967295 - feed n (l.drop i) : Nat) : Int) := by
  induction d with
  | zero =>
    intro k i n h hk hn
    obtain ⟨k, rfl⟩ : ∃ m, k = m + 1 := ⟨k - 1, by omega⟩
    simp only [quartermasterref04_Sum.l0]
    rw [if_neg (by omega), List.drop_of_length_le (by omega)]
    have : wrap64 (4294967295 - (n : Int)) = ((4294967295 - n : Nat) : Int) := by unfold wrap64; omega
    rw [this]; rfl
  | succ d ih =>
    intro k i n h hk hn
    obtain ⟨k, rfl⟩ : ∃ m, k = m + 1 := ⟨k - 1, by omega⟩
    have hi : i < l.length := by omega
    obtain ⟨c0, c1⟩ := okB_at ho (c := rd l i) (by simp [rd, hi])
    obtain ⟨c, hc⟩ : ∃ c : Nat, rd l i = (c : Int) := ⟨(rd l i).toNat, by omega⟩
    simp only [quartermasterref04_Sum.l0]
    rw [if_pos (by omega), if_pos (by omega), hc]
    have ew : wrap64 (c : Int) = (c : Int) := by unfold wrap64; omega
    rw [ew, differ_f (by omega) hn (by omega)]
    simp only [Option.bind_some]
    have hx : n ^^^ c < 4294967296 := Nat.xor_lt_two_pow (n := 32) (by omega) (by omega)
    have b8 := bits8 l i 8 k 0 (n ^^^ c) rfl (by omega) hx
    rw [show ((0 : Nat) : Int) = 0 from rfl] at b8
    rw [b8]
    have e6 : wrap64 ((i : Int) + 1) = ((i + 1 : Nat) : Int) := by unfold wrap64; omega
    rw [e6, ih (k - 8 - 1) (i + 1) _ (by omega) (by omega) (stps_lt hx 8), rd_drop hi, feed_cons, hc, Int.toNat_natCast, byteMore_eq]
theorem refsum_f {k : Nat} {l : List Int} (hl : l.length ≤ 9223372036854775806) (ho : okB l = true) (hk : 10 * l.length + 60 < k) : quartermasterref04_Sum.f k l = some ((moreS 0 l : Nat) : Int) := by
  unfold quartermasterref04_Sum.f
  have := refsum_l hl ho l.length k 0 4294967295 (by omega) hk (by decide)
  rw [show ((0 : Nat) : Int) = 0 from rfl, show ((4294967295 : Nat) : Int) = 4294967295 from rfl] at this
  rw [this, List.drop_zero]
  have e : moreS 0 l = feed 4294967295 l ^^^ 4294967295 := rfl
  rw [e, xor_all (feed_lt ho (by decide))]
theorem moreS_lt (a : Int) {l : List Int} (ho : okB l = true) : moreS a l < 4294967296 :=
  Nat.xor_lt_two_pow (n := 32) (feed_lt ho (Nat.xor_lt_two_pow (n := 32) (by omega) (by decide))) (by decide)
theorem sum_f {l : List Int} (ho : okB l = true) : crc_Sum.f l = some ((moreS 0 l : Nat) : Int) := by
  simp [crc_Sum.f, crc_More.f, ho]
theorem refseal_f {k : Nat} {l : List Int} (hl : l.length ≤ 4000) (ho : okB l = true) (hk : 10 * l.length + 60 < k) : quartermasterref04_Seal.f k l = some (l ++ le4 (moreS 0 l)) := by
  unfold quartermasterref04_Seal.f
  rw [refsum_f (by omega) ho hk]
  simp only [Option.bind_some]
  rw [if_pos (by simp; omega)]
  obtain ⟨k, rfl⟩ : ∃ m, k = m + 5 := ⟨k - 5, by omega⟩
  have hs := moreS_lt 0 ho
  obtain ⟨s, e⟩ : ∃ s, s = moreS 0 l := ⟨_, rfl⟩
  rw [← e] at hs ⊢
  have w0 : ∀ m : Nat, m < 4294967296 → wrap64 (Int.tdiv (m : Int) 256) = ((m / 256 : Nat) : Int) := fun m hm => by
    rw [Int.tdiv_eq_ediv_of_nonneg (by omega)]; unfold wrap64; omega
  have w1 : ∀ m : Nat, Int.tmod (m : Int) 256 % 256 = ((m % 256 : Nat) : Int) := fun m => by
    rw [Int.tmod_eq_emod_of_nonneg (by omega)]; omega
  have q1 : wrap64 ((0 : Int) + 1) = 1 := by unfold wrap64; omega
  have q2 : wrap64 ((1 : Int) + 1) = 2 := by unfold wrap64; omega
  have q3 : wrap64 ((2 : Int) + 1) = 3 := by unfold wrap64; omega
  have q4 : wrap64 ((3 : Int) + 1) = 4 := by unfold wrap64; omega
  simp only [quartermasterref04_Seal.l0]
  rw [if_pos (by decide), if_pos (by simp; omega), q1, if_pos (by decide), if_pos (by simp; omega), q2, if_pos (by decide), if_pos (by simp; omega), q3, if_pos (by decide), if_pos (by simp; omega), q4, if_neg (by decide)]
  rw [w0 s hs, w0 (s / 256) (by omega), w0 (s / 256 / 256) (by omega), w1, w1, w1, w1]
  simp [le4]

theorem same_l {a b : List Int} (hab : a.length = b.length) (hl : a.length ≤ 9223372036854775806) (d : Nat) : ∀ (k i : Nat), i + d = a.length → d < k →
    quartermasterref04_Same.l0 k a b i = some (a.drop i == b.drop i) := by
  induction d with
  | zero =>
    intro k i h hk
    obtain ⟨k, rfl⟩ : ∃ m, k = m + 1 := ⟨k - 1, by omega⟩
    simp only [quartermasterref04_Same.l0]
    rw [if_neg (by omega), List.drop_of_length_le (by omega), List.drop_of_length_le (by omega)]; rfl
  | succ d ih =>
    intro k i h hk
    obtain ⟨k, rfl⟩ : ∃ m, k = m + 1 := ⟨k - 1, by omega⟩
    simp only [quartermasterref04_Same.l0]
    rw [if_pos (by omega), if_pos (by omega), if_pos (by omega), rd_drop (l := a) (i := i) (by omega), rd_drop (l := b) (i := i) (by omega)]
    have e6 : wrap64 ((i : Int) + 1) = ((i + 1 : Nat) : Int) := by unfold wrap64; omega
    by_cases he : rd a i = rd b i
    · rw [if_pos he, e6, ih k (i + 1) (by omega) (by omega), he]; simp
    · rw [if_neg he]
      have : (rd a i == rd b i) = false := by simpa using he
      simp [this]
theorem same_f {k : Nat} {a b : List Int} (hl : a.length ≤ 9223372036854775806) (hk : a.length < k) : quartermasterref04_Same.f k a b = some (a == b) := by
  unfold quartermasterref04_Same.f
  by_cases h : a.length = b.length
  · rw [if_pos (by omega)]
    have := same_l h hl a.length k 0 (by omega) hk
    simpa using this
  · rw [if_neg (by omega)]
    have : ¬ a = b := fun e => h (by rw [e])
    simp [this]
end Go.Proofs.Ytnpkndbhchmedaa.Pure
