/- What the reference's read and Open come to: the same as block.Open. Plain laws over numbers and lists, of bytes (each from 0 to 255). -/
import Derived.Test.YtnpkndbhchmedaaExtAwake
import Derived.Test.YtnpkndbhchmedaaPa4
namespace Go.Proofs.Ytnpkndbhchmedaa.Pure
set_option linter.unusedVariables false
open Go.RowKit Go.Proofs.Ytnpkndbhchmedaa.Pa Go.Proofs.Ytnpkndbhchmedaa.Pb Go.Proofs.Ytnpkndbhchmedaa.Ext Go.Proofs.YtnpkndbhchmedaaW.PrintWords Go.Proofs.YtnpkndbhchmedaaW.PrintLast

theorem w64 {x y : Int} (e : x = y) (h0 : -9223372036854775808 ≤ y) (h1 : y ≤ 9223372036854775807) : wrap64 x = y := by
  subst e; unfold wrap64; omega
theorem read_step {k i p : Nat} {l : List Int} {n : Int} (ho : okB l = true) (hi : i < l.length) (hl : l.length ≤ 4) (hn : 0 ≤ n) (hn2 : n < 4294967296) (hp : p ≤ 16777216) :
    quartermasterref07_read.l0 (k + 1) l n p i = quartermasterref07_read.l0 k l (n + rd l i * p) ((p * 256 : Nat) : Int) ((i + 1 : Nat) : Int) := by
  obtain ⟨b0, b1⟩ := rd_b ho hi
  have hm0 : 0 ≤ rd l i * (p : Int) := Int.mul_nonneg b0 (by omega)
  have hm1 : rd l i * (p : Int) ≤ 255 * 16777216 := Int.mul_le_mul (by omega) (by omega) (by omega) (by omega)
  simp only [quartermasterref07_read.l0]
  rw [if_pos (by omega), if_pos (by omega), w64 (x := rd l i) rfl (by omega) (by omega)]
  generalize rd l i * (p : Int) = q at hm0 hm1 ⊢
  rw [w64 (x := q) rfl (by omega) (by omega), w64 (x := n + q) rfl (by omega) (by omega), w64 (x := (p : Int) * 256) (y := ((p * 256 : Nat) : Int)) (by omega) (by omega) (by omega), w64 (x := (i : Int) + 1) (y := ((i + 1 : Nat) : Int)) (by omega) (by omega) (by omega)]
theorem read_end {k i : Nat} {l : List Int} {n p : Int} (hi : i = l.length) : quartermasterref07_read.l0 (k + 1) l n p i = some n := by
  simp only [quartermasterref07_read.l0]
  rw [if_neg (by omega)]
theorem rd_mid {s : List Int} {a b i : Nat} (h : a + i < b) (hb : b ≤ s.length) : rd ((s.take b).drop a) (i : Int) = rd s ((a + i : Nat) : Int) := by
  simp only [rd, Int.toNat_natCast, List.getD_eq_getElem?_getD, List.getElem?_drop, List.getElem?_take]
  rw [if_pos h]
theorem read_f4 {k a : Nat} {s : List Int} (ho : okB s = true) (ha : a + 4 ≤ s.length) (hk : 6 < k) : quartermasterref07_read.f k ((s.take (a + 4)).drop a) = some (num4 s a) := by
  obtain ⟨k, rfl⟩ : ∃ m, k = m + 1 + 1 + 1 + 1 + 1 := ⟨k - 5, by omega⟩
  have hl : ((s.take (a + 4)).drop a).length = 4 := by rw [List.length_drop, List.length_take]; omega
  have hob : okB ((s.take (a + 4)).drop a) = true := okB_drop (okB_take ho _) _
  have r0 : rd ((s.take (a + 4)).drop a) ((0 : Nat) : Int) = rd s ((a + 0 : Nat) : Int) := rd_mid (by omega) (by omega)
  have r1 : rd ((s.take (a + 4)).drop a) ((1 : Nat) : Int) = rd s ((a + 1 : Nat) : Int) := rd_mid (by omega) (by omega)
  have r2 : rd ((s.take (a + 4)).drop a) ((2 : Nat) : Int) = rd s ((a + 2 : Nat) : Int) := rd_mid (by omega) (by omega)
  have r3 : rd ((s.take (a + 4)).drop a) ((3 : Nat) : Int) = rd s ((a + 3 : Nat) : Int) := rd_mid (by omega) (by omega)
  obtain ⟨a0, a1⟩ := rd_b ho (show a + 3 < s.length by omega)
  obtain ⟨b0, b1⟩ := rd_b ho (show a + 2 < s.length by omega)
  obtain ⟨c0, c1⟩ := rd_b ho (show a + 1 < s.length by omega)
  obtain ⟨d0, d1⟩ := rd_b ho (show a + 0 < s.length by omega)
  generalize (s.take (a + 4)).drop a = l at hl hob r0 r1 r2 r3 ⊢
  unfold quartermasterref07_read.f num4
  have q1 := read_step (k := k + 1 + 1 + 1 + 1) (i := 0) (p := 1) (n := 0) hob (by omega) (by omega) (by omega) (by omega) (by omega)
  have q2 := read_step (k := k + 1 + 1 + 1) (i := 1) (p := 256) (n := 0 + rd l ((0 : Nat) : Int) * ((1 : Nat) : Int)) hob (by omega) (by omega) (by rw [r0]; omega) (by rw [r0]; omega) (by omega)
  have q3 := read_step (k := k + 1 + 1) (i := 2) (p := 65536) (n := 0 + rd l ((0 : Nat) : Int) * ((1 : Nat) : Int) + rd l ((1 : Nat) : Int) * ((256 : Nat) : Int)) hob (by omega) (by omega) (by rw [r0, r1]; omega) (by rw [r0, r1]; omega) (by omega)
  have q4 := read_step (k := k + 1) (i := 3) (p := 16777216) (n := 0 + rd l ((0 : Nat) : Int) * ((1 : Nat) : Int) + rd l ((1 : Nat) : Int) * ((256 : Nat) : Int) + rd l ((2 : Nat) : Int) * ((65536 : Nat) : Int)) hob (by omega) (by omega) (by rw [r0, r1, r2]; omega) (by rw [r0, r1, r2]; omega) (by omega)
  refine q1.trans (q2.trans (q3.trans (q4.trans ((read_end (by omega)).trans ?_))))
  rw [r0, r1, r2, r3]
  congr 1
  simp only [Nat.add_zero]
  omega
theorem read_f2 {k a : Nat} {s : List Int} (ho : okB s = true) (ha : a + 2 ≤ s.length) (hk : 6 < k) : quartermasterref07_read.f k ((s.take (a + 2)).drop a) = some (num2 s a) := by
  obtain ⟨k, rfl⟩ : ∃ m, k = m + 1 + 1 + 1 := ⟨k - 3, by omega⟩
  have hl : ((s.take (a + 2)).drop a).length = 2 := by rw [List.length_drop, List.length_take]; omega
  have hob : okB ((s.take (a + 2)).drop a) = true := okB_drop (okB_take ho _) _
  have r0 : rd ((s.take (a + 2)).drop a) ((0 : Nat) : Int) = rd s ((a + 0 : Nat) : Int) := rd_mid (by omega) (by omega)
  have r1 : rd ((s.take (a + 2)).drop a) ((1 : Nat) : Int) = rd s ((a + 1 : Nat) : Int) := rd_mid (by omega) (by omega)
  obtain ⟨c0, c1⟩ := rd_b ho (show a + 1 < s.length by omega)
  obtain ⟨d0, d1⟩ := rd_b ho (show a + 0 < s.length by omega)
  generalize (s.take (a + 2)).drop a = l at hl hob r0 r1 ⊢
  unfold quartermasterref07_read.f num2
  have q1 := read_step (k := k + 1 + 1) (i := 0) (p := 1) (n := 0) hob (by omega) (by omega) (by omega) (by omega) (by omega)
  have q2 := read_step (k := k + 1) (i := 1) (p := 256) (n := 0 + rd l ((0 : Nat) : Int) * ((1 : Nat) : Int)) hob (by omega) (by omega) (by rw [r0]; omega) (by rw [r0]; omega) (by omega)
  refine q1.trans (q2.trans ((read_end (by omega)).trans ?_))
  rw [r0, r1]
  congr 1
  simp only [Nat.add_zero]
  omega
theorem refopen_f {k : Nat} {s : List Int} (hk : 4100 < k) (ho : okB s = true) (hs : s.length ≤ 1000) : quartermasterref07_Open.f k s = some (openS s) := by
  unfold quartermasterref07_Open.f openS
  by_cases h : s.length = 256
  · rw [if_pos (by omega), if_pos h, if_pos (by decide), if_pos (by omega)]
    have n20 : quartermasterref07_read.f k ((s.take 22).drop 20) = some (num2 s 20) := read_f2 (a := 20) ho (by omega) (by omega)
    have n4 : quartermasterref07_read.f k ((s.take 8).drop 4) = some (num4 s 4) := read_f4 (a := 4) ho (by omega) (by omega)
    have n8 : quartermasterref07_read.f k ((s.take 12).drop 8) = some (num4 s 8) := read_f4 (a := 8) ho (by omega) (by omega)
    have n12 : quartermasterref07_read.f k ((s.take 16).drop 12) = some (num4 s 12) := read_f4 (a := 12) ho (by omega) (by omega)
    have n16 : quartermasterref07_read.f k ((s.take 20).drop 16) = some (num4 s 16) := read_f4 (a := 16) ho (by omega) (by omega)
    rw [n20, n4, n8, n12, n16]
    simp only [Option.bind_some]
    by_cases h2 : num2 s 20 ≤ 228
    · obtain ⟨c0, c1⟩ := rd_b ho (show 20 < s.length by omega)
      obtain ⟨d0, d1⟩ := rd_b ho (show 21 < s.length by omega)
      obtain ⟨e0, e1⟩ := rd_b ho (show 2 < s.length by omega)
      have hn0 : 0 ≤ num2 s 20 := by
        unfold num2
        have e : ((20 + 1 : Nat) : Int) = ((21 : Nat) : Int) := rfl
        rw [e]
        omega
      have e0' : 0 ≤ rd s 2 := e0
      have e1' : rd s 2 < 256 := e1
      have et : (24 + num2 s 20).toNat = 24 + (num2 s 20).toNat := by omega
      have eb : (s.take (24 + (num2 s 20).toNat)).drop 24 = bodyOf s := rfl
      have hbl := bodyOf_length ho h h2
      rw [w64 (x := 24 + num2 s 20) rfl (by omega) (by omega), w64 (x := rd s 2) rfl (by omega) (by omega), et, eb]
      clear n20 n4 n8 n12 n16
      rw [if_neg (show ¬ num2 s 20 > 228 by omega), if_pos (by omega), if_pos (by decide), if_pos (by omega), if_pos (by decide), if_pos (by omega), if_pos (by decide), if_pos (by omega), if_pos (by decide), if_pos (by omega), if_pos (by omega), if_pos (by omega), if_pos (by rw [List.length_nil]; omega), List.nil_append]
      rw [refseal_blk (by omega) (okB_bodyOf ho), sealS_ok (by omega)]
      simp only [Option.bind_some]
      by_cases hn : numS (rd s 2) (num4 s 4) (num4 s 8) (num4 s 12) (num4 s 16) = true
      · rw [if_pos hn]
        rw [same_f (by omega) (by omega)]
        simp only [Option.bind_some, if_true]
        by_cases he : s = sealT (rd s 2) (num4 s 4) (num4 s 8) (num4 s 12) (num4 s 16) (bodyOf s)
        · rw [if_pos (beq_iff_eq.2 he), if_pos ⟨h2, hn, he⟩]
        · rw [if_neg (fun hh => he (beq_iff_eq.1 hh)), if_neg (fun hh => he hh.2.2)]
      · rw [if_neg hn, if_neg (fun hh => hn hh.2.1), same_f (by omega) (by omega)]
        simp only [Option.bind_some]
        rw [if_neg (by decide)]
    · rw [if_pos (show num2 s 20 > 228 by omega), if_neg (fun hh => h2 hh.1)]
  · rw [if_neg (by omega), if_neg h]
end Go.Proofs.Ytnpkndbhchmedaa.Pure
