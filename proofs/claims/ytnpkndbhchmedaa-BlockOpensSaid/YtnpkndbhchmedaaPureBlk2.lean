/- What block's functions and the reference's come to, second part: the reference's seal, and that both seal alike. -/
import Derived.Test.YtnpkndbhchmedaaPureBlk
namespace Go.Proofs.Ytnpkndbhchmedaa.Pure
open Go.RowKit Go.Proofs.Ytnpkndbhchmedaa.Pa Go.Proofs.Ytnpkndbhchmedaa.Pb Go.Proofs.Ytnpkndbhchmedaa.Ext Go.Proofs.YtnpkndbhchmedaaW.PrintWords Go.Proofs.YtnpkndbhchmedaaW.PrintLast

theorem td {n : Int} (h : 0 ≤ n) (h1 : n ≤ 4294967295) : wrap64 (Int.tdiv n 256) = n / 256 := by
  rw [Int.tdiv_eq_ediv_of_nonneg h]; unfold wrap64; omega
theorem tm {n : Int} (h : 0 ≤ n) : (Int.tmod n 256) % 256 = n % 256 := by
  rw [Int.tmod_eq_emod_of_nonneg h]; omega
theorem word_f4 {k : Nat} {n : Int} (hk : 6 < k) (h : 0 ≤ n) (h1 : n ≤ 4294967295) : quartermasterref07_word.f k n 4 = some (le4 n) := by
  obtain ⟨k, rfl⟩ : ∃ m, k = m + 5 := ⟨k - 5, by omega⟩
  have t1 := td h h1
  have t2 := td (n := n / 256) (by omega) (by omega)
  have t3 := td (n := n / 256 / 256) (by omega) (by omega)
  have m0 := tm h
  have m1 := tm (n := n / 256) (by omega)
  have m2 := tm (n := n / 256 / 256) (by omega)
  have m3 := tm (n := n / 256 / 256 / 256) (by omega)
  unfold quartermasterref07_word.f
  simp only [quartermasterref07_word.l0, w01, w12, w23, w34, t1, t2, t3, m0, m1, m2, m3, List.length_append, List.length_cons, List.length_nil]
  rw [if_pos (by decide), if_pos (by decide), if_pos (by decide), if_pos (by decide), if_pos (by decide), if_pos (by decide), if_pos (by decide), if_pos (by decide), if_neg (by decide)]
  rfl
theorem word_f2 {k : Nat} {n : Int} (hk : 6 < k) (h : 0 ≤ n) (h1 : n ≤ 4294967295) : quartermasterref07_word.f k n 2 = some (le2 n) := by
  obtain ⟨k, rfl⟩ : ∃ m, k = m + 3 := ⟨k - 3, by omega⟩
  have t1 := td h h1
  have m0 := tm h
  have m1 := tm (n := n / 256) (by omega)
  unfold quartermasterref07_word.f
  simp only [quartermasterref07_word.l0, w01, w12, t1, m0, m1, List.length_append, List.length_cons, List.length_nil]
  rw [if_pos (by decide), if_pos (by decide), if_pos (by decide), if_pos (by decide), if_neg (by decide)]
  rfl
theorem pad_f (d : Nat) : ∀ (k : Nat) (x : List Int), x.length + d = 252 → okB x = true → d + 3000 < k → quartermasterref07_Seal.l0 k x = some ((x ++ List.replicate d 0) ++ le4 (moreS 0 (x ++ List.replicate d 0)), 0) := by
  induction d with
  | zero =>
    intro k x h ho hk
    obtain ⟨k, rfl⟩ : ∃ m, k = m + 1 := ⟨k - 1, by omega⟩
    rw [quartermasterref07_Seal.l0_succ, if_neg (by omega), refseal_f (by omega) ho (by omega)]
    simp only [Option.bind_some, List.replicate_zero, List.append_nil]
  | succ d ih =>
    intro k x h ho hk
    obtain ⟨k, rfl⟩ : ∃ m, k = m + 1 := ⟨k - 1, by omega⟩
    rw [quartermasterref07_Seal.l0_succ, if_pos (by omega), if_pos (by omega), ih k (x ++ [0]) (by simp; omega) (okB_append ho (by rfl)) (by omega)]
    have er : x ++ List.replicate (d + 1) 0 = (x ++ [0]) ++ List.replicate d 0 := by rw [List.append_assoc, List.replicate_succ]; rfl
    rw [er]
theorem refseal_blk {k : Nat} {a0 a1 a2 a3 a4 : Int} {l : List Int} (hk : 4000 < k) (ho : okB l = true) : quartermasterref07_Seal.f k a0 a1 a2 a3 a4 l = some (sealS a0 a1 a2 a3 a4 l) := by
  unfold quartermasterref07_Seal.f sealS
  rw [refnumbers_f (by omega)]
  simp only [Option.bind_some]
  by_cases hn : numS a0 a1 a2 a3 a4 = true
  · rw [if_pos hn, if_pos hn]
    by_cases hl : (l.length : Int) > 228
    · rw [if_pos hl, if_pos hl]
    · rw [if_neg hl, if_neg hl]
      obtain ⟨_, _, h1, h2, h3, h4⟩ := numS_of hn
      rw [word_f4 (by omega) h1.1 h1.2, word_f4 (by omega) h2.1 h2.2, word_f4 (by omega) h3.1 h3.2, word_f4 (by omega) h4.1 h4.2, word_f2 (by omega) (by omega) (by omega)]
      simp only [Option.bind_some]
      have e4 : ∀ s, (le4 s).length = 4 := fun _ => rfl
      have e2 : ∀ s, (le2 s).length = 2 := fun _ => rfl
      simp only [List.length_append, List.length_cons, List.length_nil, e4, e2]
      rw [if_pos (by decide), if_pos (by decide), if_pos (by decide), if_pos (by decide), if_pos (by decide), if_pos (by decide), if_pos (by omega)]
      have e : (((((([81, 77, a0 % 256, 0] ++ le4 a1) ++ le4 a2) ++ le4 a3) ++ le4 a4) ++ le2 (l.length : Int)) ++ [0, 0]) = headS a0 a1 a2 a3 a4 l.length := rfl
      rw [e, pad_f (228 - l.length) k _ (by rw [List.length_append, headS_length]; omega) (okB_append (okB_head _ _ _ _ _ _) ho) (by omega)]
      rfl
  · rw [if_neg hn, if_neg hn]
theorem may_f {k : Nat} {a0 a1 a2 a3 a4 : Int} {l : List Int} (hk : 5 < k) : block_May.f k a0 a1 a2 a3 a4 l = some (numS a0 a1 a2 a3 a4 && decide ((l.length : Int) ≤ 228)) := by
  unfold block_May.f
  rw [numbers_f hk]
  simp only [Option.bind_some]
  cases numS a0 a1 a2 a3 a4 <;> simp
theorem refmay_f {k : Nat} {a0 a1 a2 a3 a4 : Int} {l : List Int} (hk : 5 < k) : quartermasterref07_May.f k a0 a1 a2 a3 a4 l = some (numS a0 a1 a2 a3 a4 && decide ((l.length : Int) ≤ 228)) := by
  unfold quartermasterref07_May.f
  rw [refnumbers_f hk]
  simp only [Option.bind_some]
  cases numS a0 a1 a2 a3 a4 <;> simp

theorem or8 {x y : Int} (h : 0 ≤ x) (h1 : x < 1099511627776) (h2 : x % 256 = 0) (h3 : 0 ≤ y) (h4 : y < 256) : Go.bits .or .i64 x y = x + y :=
  bits_join .i64 40 (by decide) (fun n a b => by rw [IntKind.wrap_i64]; omega) 8 x y h h2 h1 h3 h4 (by omega)
theorem rd_b {l : List Int} (ho : okB l = true) {i : Nat} (hi : i < l.length) : 0 ≤ rd l i ∧ rd l i < 256 := okB_at ho (by simp [rd, hi])
/-- The number that bytes are. -/
def num4 (s : List Int) (p : Nat) : Int := rd s p + 256 * (rd s ((p + 1 : Nat) : Int) + 256 * (rd s ((p + 2 : Nat) : Int) + 256 * rd s ((p + 3 : Nat) : Int)))
def num2 (s : List Int) (p : Nat) : Int := rd s p + 256 * rd s ((p + 1 : Nat) : Int)
theorem number_step {k p i : Nat} {s : List Int} {n : Int} (ho : okB s = true) (hs : s.length ≤ 1000) (hi : p + i < s.length) (hn : 0 ≤ n) (hn2 : n < 4294967296) : block_number.l0 (k + 1) s p n i = block_number.l0 k s p (256 * n + rd s ((p + i : Nat) : Int)) ((i : Int) - 1) := by
  have e1 : wrap64 ((p : Int) + i) = ((p + i : Nat) : Int) := by unfold wrap64; omega
  have e2 : wrap64 ((i : Int) - 1) = (i : Int) - 1 := by unfold wrap64; omega
  have e3 : wrap64 (n * 256) = 256 * n := by unfold wrap64; omega
  obtain ⟨b0, b1⟩ := rd_b ho hi
  have e4 : wrap64 (rd s ((p + i : Nat) : Int)) = rd s ((p + i : Nat) : Int) := by unfold wrap64; omega
  simp only [block_number.l0]
  rw [e1, e2, e3, e4]
  clear e1 e2 e3 e4
  rw [if_pos (by omega), if_pos (by omega), if_pos (by omega), or8 (by omega) (by omega) (by omega) b0 b1]
theorem number_f4 {k p : Nat} {s : List Int} (ho : okB s = true) (hs : s.length ≤ 1000) (hp : p + 4 ≤ s.length) (hk : 6 < k) : block_number.f k s p 4 = some (num4 s p) := by
  obtain ⟨k, rfl⟩ : ∃ m, k = m + 1 + 1 + 1 + 1 + 1 := ⟨k - 5, by omega⟩
  have e0 : wrap64 (4 - 1) = ((3 : Nat) : Int) := by unfold wrap64; omega
  obtain ⟨a0, a1⟩ := rd_b ho (show p + 3 < s.length by omega)
  obtain ⟨b0, b1⟩ := rd_b ho (show p + 2 < s.length by omega)
  obtain ⟨c0, c1⟩ := rd_b ho (show p + 1 < s.length by omega)
  obtain ⟨d0, d1⟩ := rd_b ho (show p + 0 < s.length by omega)
  unfold block_number.f num4
  rw [e0, number_step ho hs (by omega) (by omega) (by omega)]
  rw [show (((3 : Nat) : Int) - 1) = ((2 : Nat) : Int) by omega, number_step ho hs (by omega) (by omega) (by omega)]
  rw [show (((2 : Nat) : Int) - 1) = ((1 : Nat) : Int) by omega, number_step ho hs (by omega) (by omega) (by omega)]
  rw [show (((1 : Nat) : Int) - 1) = ((0 : Nat) : Int) by omega, number_step ho hs (by omega) (by omega) (by omega)]
  simp only [block_number.l0]
  rw [if_neg (by omega)]
  congr 1
  simp only [Nat.add_zero]
  omega
theorem number_f2 {k p : Nat} {s : List Int} (ho : okB s = true) (hs : s.length ≤ 1000) (hp : p + 2 ≤ s.length) (hk : 6 < k) : block_number.f k s p 2 = some (num2 s p) := by
  obtain ⟨k, rfl⟩ : ∃ m, k = m + 1 + 1 + 1 := ⟨k - 3, by omega⟩
  have e0 : wrap64 (2 - 1) = ((1 : Nat) : Int) := by unfold wrap64; omega
  obtain ⟨c0, c1⟩ := rd_b ho (show p + 1 < s.length by omega)
  obtain ⟨d0, d1⟩ := rd_b ho (show p + 0 < s.length by omega)
  unfold block_number.f num2
  rw [e0, number_step ho hs (by omega) (by omega) (by omega)]
  rw [show (((1 : Nat) : Int) - 1) = ((0 : Nat) : Int) by omega, number_step ho hs (by omega) (by omega) (by omega)]
  simp only [block_number.l0]
  rw [if_neg (by omega)]
  congr 1
  simp only [Nat.add_zero]
  omega
end Go.Proofs.Ytnpkndbhchmedaa.Pure
