/- The reference's gets come to what is got: the plain law. No program in sight. -/
import Derived.Test.YtamgeophebillaaCodeBack
namespace Go.Proofs.Ytamgeophebillaa.Code
open Go.RowKit Go.Proofs.Ytamgeophebillaa.Pa Go.Proofs.YtamgeophebillaaW.PrintWords Go.Proofs.YtamgeophebillaaW.PrintLast Go.Proofs.YtamgeophebillaaW.PrintMore
set_option linter.unusedVariables false

theorem w64 {x : Int} (h0 : -9223372036854775808 ≤ x) (h1 : x < 9223372036854775808) : wrap64 x = x := by unfold wrap64; omega
theorem wi {i : Nat} (h : i < 1000000000000) : wrap64 ((i : Int) + 1) = ((i + 1 : Nat) : Int) := by unfold wrap64; omega
theorem wm {r : Int} (h0 : 0 ≤ r) (h1 : r < 256) : wrap64 (Int.tmod r 128) = r % 128 := by
  rw [Int.tmod_eq_emod_of_nonneg h0]; unfold wrap64; omega
theorem run_l {l : List Int} (hb : Bytes l) (d : Nat) : ∀ (k i m : Nat), i + d = l.length → 2 * d < k → i ≤ 9 →
    quartermasterref05_run.l0 k l i = some (((look i m (l.drop i)).long : Int), (look i m (l.drop i)).e) := by
  induction d with
  | zero =>
    intro k i m h hk hi
    obtain ⟨k, rfl⟩ : ∃ j, k = j + 1 := ⟨k - 1, by omega⟩
    simp only [quartermasterref05_run.l0]
    rw [if_neg (by omega), List.drop_of_length_le (by omega)]
    rfl
  | succ d ih =>
    intro k i m h hk hi
    obtain ⟨k, rfl⟩ : ∃ j, k = j + 1 + 1 := ⟨k - 2, by omega⟩
    have hlt : i < l.length := by omega
    obtain ⟨r0, r1⟩ := hb.rd hlt
    have e6 : wrap64 ((i : Int) + 1) = ((i + 1 : Nat) : Int) := by unfold wrap64; omega
    rw [drop_rd hlt, look]
    simp only [quartermasterref05_run.l0]
    rw [if_pos (by omega), if_neg (by omega)]
    have hj : quartermasterref05_run.j1 (k + 1) l i false = some (((if 128 ≤ rd l i then look (i + 1) (m + (rd l i - 128).toNat * 128 ^ i) (l.drop (i + 1)) else if rd l i = 0 ∧ 0 < i then ⟨0, 0, 7⟩ else ⟨m + (rd l i).toNat * 128 ^ i, i + 1, 0⟩ : Seen).long : Int), (if 128 ≤ rd l i then look (i + 1) (m + (rd l i - 128).toNat * 128 ^ i) (l.drop (i + 1)) else if rd l i = 0 ∧ 0 < i then ⟨0, 0, 7⟩ else ⟨m + (rd l i).toNat * 128 ^ i, i + 1, 0⟩ : Seen).e) ∨ (i = 9 ∧ 1 < rd l i) := by
      by_cases h9 : i = 9 ∧ 1 < rd l i
      · exact .inr h9
      · refine .inl ?_
        simp only [quartermasterref05_run.j1]
        rw [if_neg (by simp), if_pos (by omega), if_pos (by omega)]
        by_cases h1 : 128 ≤ rd l i
        · rw [if_neg (by omega), if_pos h1, e6, ih k (i + 1) (m + (rd l i - 128).toNat * 128 ^ i) (by omega) (by omega) (by omega)]
        · rw [if_pos (by omega), if_neg h1]
          by_cases h2 : rd l i = 0
          · rw [if_pos h2]
            by_cases h3 : 0 < i
            · rw [if_pos (by omega), if_pos ⟨h2, h3⟩]; rfl
            · rw [if_neg (by omega), if_neg (fun h => h3 h.2), e6]
          · rw [if_neg h2, if_neg (fun h => h2 h.1), e6]
    by_cases h9 : i = 9
    · rw [if_pos (by omega), if_pos (by omega)]
      by_cases h1 : 1 < rd l i
      · rw [if_pos ⟨h9, h1⟩, show decide (rd l (i : Int) > 1) = true from decide_eq_true h1]
        simp only [quartermasterref05_run.j1]
        rw [if_pos trivial]
        rfl
      · rw [if_neg (fun h => h1 h.2), show decide (rd l (i : Int) > 1) = false from decide_eq_false h1]
        rcases hj with hj | hj
        · exact hj
        · exact absurd hj.2 h1
    · rw [if_neg (by omega), if_neg (fun h => h9 h.1)]
      rcases hj with hj | hj
      · exact hj
      · exact absurd hj.1 h9
theorem run_f {l : List Int} (hb : Bytes l) : quartermasterref05_run.f (2 * l.length + 1) l = some (((look 0 0 l).long : Int), (look 0 0 l).e) := by
  unfold quartermasterref05_run.f
  have := run_l hb l.length (2 * l.length + 1) 0 0 (by omega) (by omega) (by omega)
  simpa using this
theorem halves_l (odd : Int) {x0 : List Int} (hx : x0.length ≤ 10) : ∀ (m k i half p : Nat), x0.drop i = digs m → 1 ≤ i → i + (digs m).length = x0.length → 2 * p = 128 ^ i → half + m * p < 9223372036854775808 → (digs m).length < k →
    quartermasterref05_halves.l0 k x0 half odd p i = some (((half + m * p : Nat) : Int), odd) := by
  intro m
  induction m using Nat.strongRecOn with
  | _ m ih =>
    intro k i half p hd hi hl hp hb hk
    have hne := digs_ne m
    obtain ⟨k, rfl, hk1⟩ : ∃ j, k = j + 1 ∧ 1 ≤ j := ⟨k - 1, by omega, by omega⟩
    have hlt : i < x0.length := by omega
    have hdr := drop_rd hlt
    rw [hd] at hdr
    have hpp : p ≤ m * p ∨ m = 0 := by
      rcases Nat.eq_zero_or_pos m with h | h
      · exact .inr h
      · exact .inl (Nat.le_mul_of_pos_left _ h)
    by_cases h : m < 128
    · rw [digs_small h] at hdr hl
      injection hdr with h1 h2
      have hmm : wrap64 (Int.tmod (m : Int) 128) = (m : Int) := by rw [wm (by omega) (by omega)]; omega
      have HMM := Aside0.mk hmm
      clear hmm
      simp only [quartermasterref05_halves.l0]
      rw [if_pos (by omega), if_pos (by omega), ← h1, HMM.out, wi (by omega)]
      simp only [List.length_singleton] at hl
      have e2 : ((m : Int) * (p : Int)) = ((m * p : Nat) : Int) := by simp
      have b1 := Aside0.mk (w64 (x := ((m * p : Nat) : Int)) (by omega) (by omega))
      have b2 := Aside0.mk (w64 (x := (half : Int) + ((m * p : Nat) : Int)) (by omega) (by omega))
      rw [e2, b1.out, b2.out]
      have fin : ∀ p' : Int, quartermasterref05_halves.l0 k x0 ((half : Int) + ((m * p : Nat) : Int)) odd p' ((i + 1 : Nat) : Int) = some (((half + m * p : Nat) : Int), odd) := fun p' => by
        obtain ⟨k, rfl⟩ : ∃ j, k = j + 1 := ⟨k - 1, by omega⟩
        simp only [quartermasterref05_halves.l0]
        rw [if_neg (by omega)]
        simp
      rw [fin, fin, ite_self]
    · rw [digs_big h] at hdr hl
      injection hdr with h1 h2
      simp only [List.length_cons] at hl
      have hne2 := digs_ne (m / 128)
      have hi9 : i ≤ 8 := by omega
      have hmm : wrap64 (Int.tmod ((m % 128 + 128 : Nat) : Int) 128) = ((m % 128 : Nat) : Int) := by rw [wm (by omega) (by omega)]; omega
      have HMM := Aside0.mk hmm
      clear hmm
      simp only [quartermasterref05_halves.l0]
      rw [if_pos (by omega), if_pos (by omega), if_pos (by omega), ← h1, HMM.out, wi (by omega)]
      have e2 : (((m % 128 : Nat) : Int) * (p : Int)) = ((m % 128 * p : Nat) : Int) := by simp
      have e3 : m * p = m % 128 * p + m / 128 * (p * 128) := by
        have := Nat.div_add_mod m 128
        calc m * p = (128 * (m / 128) + m % 128) * p := by rw [this]
          _ = m % 128 * p + m / 128 * (p * 128) := by rw [Nat.add_mul, Nat.mul_comm 128 (m / 128), Nat.mul_assoc, Nat.mul_comm 128 p]; omega
      have e4 : p * 128 ≤ m / 128 * (p * 128) := Nat.le_mul_of_pos_left _ (by omega)
      clear hd h1
      have b1 := Aside0.mk (w64 (x := ((m % 128 * p : Nat) : Int)) (by omega) (by omega))
      have b2 := Aside0.mk (w64 (x := (half : Int) + ((m % 128 * p : Nat) : Int)) (by omega) (by omega))
      have b3 := Aside0.mk (w64 (x := (p : Int) * 128) (by omega) (by omega))
      rw [e2, b1.out, b2.out, b3.out]
      clear b1 b2 b3
      have := ih (m / 128) (by omega) k (i + 1) (half + m % 128 * p) (p * 128) h2.symm (by omega) (by omega) (by rw [Nat.pow_succ, ← hp]; omega) (by omega) (by rw [digs_big h] at hk; simp only [List.length_cons] at hk; omega)
      rw [show ((half : Int) + ((m % 128 * p : Nat) : Int)) = ((half + m % 128 * p : Nat) : Int) by omega, show ((p : Int) * 128) = ((p * 128 : Nat) : Int) by omega, this, e3]
      congr 3
      omega
theorem halves_f {k n : Nat} (hk : 12 ≤ k) (hn : n < 18446744073709551616) : quartermasterref05_halves.f k (digs n) = some (((n / 2 : Nat) : Int), ((n % 2 : Nat) : Int)) := by
  have hne := digs_ne n
  have ht := digs_ten hn
  unfold quartermasterref05_halves.f
  rw [if_pos (by omega)]
  have hdr := drop_rd hne
  rw [List.drop_zero] at hdr
  by_cases h : n < 128
  · have hd := digs_small h
    have h1 : rd (digs n) 0 = (n : Int) := by rw [hd]; rfl
    have hl : (digs n).length = 1 := by rw [hd]; rfl
    rw [h1]
    have e1 : wrap64 (Int.tdiv (wrap64 (Int.tmod (n : Int) 128)) 2) = ((n / 2 : Nat) : Int) := by
      rw [wm (by omega) (by omega), Int.tdiv_eq_ediv_of_nonneg (by omega), w64 (by omega) (by omega)]; omega
    have e2 : Int.tmod (wrap64 (n : Int)) 2 = ((n % 2 : Nat) : Int) := by
      rw [w64 (by omega) (by omega), Int.tmod_eq_emod_of_nonneg (by omega)]; omega
    rw [e1, e2]
    obtain ⟨k, rfl⟩ : ∃ j, k = j + 1 := ⟨k - 1, by omega⟩
    simp only [quartermasterref05_halves.l0]
    rw [if_neg (by omega)]
  · have hd := digs_big h
    have h1 : rd (digs n) 0 = ((n % 128 + 128 : Nat) : Int) := by rw [hd]; rfl
    have hl : (digs n).length = 1 + (digs (n / 128)).length := by rw [hd, List.length_cons]; omega
    have hd1 : (digs n).drop 1 = digs (n / 128) := by rw [hd]; rfl
    rw [h1]
    have e1 : wrap64 (Int.tdiv (wrap64 (Int.tmod ((n % 128 + 128 : Nat) : Int) 128)) 2) = ((n % 128 / 2 : Nat) : Int) := by
      rw [wm (by omega) (by omega), Int.tdiv_eq_ediv_of_nonneg (by omega), w64 (by omega) (by omega)]; omega
    have e2 : Int.tmod (wrap64 ((n % 128 + 128 : Nat) : Int)) 2 = ((n % 2 : Nat) : Int) := by
      rw [w64 (by omega) (by omega), Int.tmod_eq_emod_of_nonneg (by omega)]; omega
    rw [e1, e2]
    have := halves_l ((n % 2 : Nat) : Int) ht (n / 128) k 1 (n % 128 / 2) 64 hd1 (by omega) (by omega) (by decide) (by omega) (by omega)
    rw [show ((1 : Nat) : Int) = 1 from rfl, show ((64 : Nat) : Int) = 64 from rfl] at this
    rw [this, show n % 128 / 2 + n / 128 * 64 = n / 2 by omega]
end Go.Proofs.Ytamgeophebillaa.Code
