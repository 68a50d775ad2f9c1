/- BlockFew walked by hand: of blocks whose bytes are from 0 to 255, changed somewhere in what is sealed, it answers true. -/
import Derived.Test.YtnpkndbhchmedaaExtAwake
import Derived.Test.YtnpkndbhchmedaaPureFew
import Derived.RegionTactic
import Derived.ChangeAlike
import Derived.Deep.RegionHeld3
namespace Go.Proofs.Ytnpkndbhchmedaa.Few
set_option linter.unusedVariables false
open Go.RowKit Go.Proofs.Ytnpkndbhchmedaa.Pure Go.Proofs.Ytnpkndbhchmedaa.Pa Go.Proofs.Ytnpkndbhchmedaa.Pb Go.Proofs.Ytnpkndbhchmedaa.Ext Go.Proofs.YtnpkndbhchmedaaW.PrintWords Go.Proofs.YtnpkndbhchmedaaW.PrintLast Go.Proofs.YtnpkndbhchmedaaW.PrintMore

/-- What is sealed, k of its bytes changed. -/
def turn (s y : List Int) (p : Nat) : Nat → List Int
  | 0 => s
  | k + 1 => (turn s y p k).set (p + k) (Go.bits .xor .u8 (rd (turn s y p k) ((p + k : Nat) : Int)) (rd y k))
theorem turn_length (s y : List Int) (p : Nat) : ∀ k, (turn s y p k).length = s.length
  | 0 => rfl
  | k + 1 => by rw [turn, List.length_set, turn_length s y p k]
/-- Is one of the first k changed? -/
def chg (y : List Int) (k : Nat) : Bool := (y.take k).any (· != 0)

theorem chg_succ (y : List Int) (k : Nat) (h : k < y.length) : chg y (k + 1) = (chg y k || (rd y k != 0)) := by
  unfold chg
  rw [List.take_succ_eq_append_getElem h, List.any_append]
  simp [rd, h]

theorem rd_set (l : List Int) (j i : Nat) (v : Int) (hj : j < l.length) : rd (l.set j v) (i : Int) = if j = i then v else rd l (i : Int) := by
  simp only [rd, Int.toNat_natCast, List.getD_eq_getElem?_getD]
  rw [List.getElem?_set]
  by_cases e : j = i
  · rw [if_pos e, if_pos e, if_pos hj]; rfl
  · rw [if_neg e, if_neg e]
theorem rd_mem {l : List Int} {i : Nat} (h : i < l.length) : rd l (i : Int) ∈ l := by simp [rd, h]
theorem turn_rd {s y : List Int} {p : Nat} (hs : okB s = true) (hy : okB y = true) (h4 : y.length = 4) (hp : p + 4 ≤ s.length) : ∀ (k i : Nat), k ≤ 4 → i < s.length →
    rd (turn s y p k) (i : Int) = if p ≤ i ∧ i < p + k then (((rd s i).toNat ^^^ (rd y ((i - p : Nat) : Int)).toNat : Nat) : Int) else rd s i
  | 0, i, _, _ => by rw [if_neg (by omega)]; rfl
  | k + 1, i, hk, hi => by
    have hin : rd (turn s y p k) ((p + k : Nat) : Int) = rd s ((p + k : Nat) : Int) := by rw [turn_rd hs hy h4 hp k (p + k) (by omega) (by omega), if_neg (by omega)]
    rw [turn, hin, rd_set _ _ _ _ (by rw [turn_length]; omega), turn_rd hs hy h4 hp k i (by omega) hi]
    by_cases e : p + k = i
    · subst e
      rw [if_pos rfl, if_pos (by omega)]
      obtain ⟨a0, a1⟩ := okB_at hs (c := rd s ((p + k : Nat) : Int)) (rd_mem hi)
      have hky : k < y.length := by omega
      obtain ⟨c0, c1⟩ := okB_at hy (c := rd y (k : Int)) (by simp [rd, hky])
      rw [u8_xor _ _ a0 a1 c0 c1, show p + k - p = k by omega]
    · rw [if_neg e]
      by_cases e2 : p ≤ i ∧ i < p + k
      · rw [if_pos e2, if_pos (by omega)]
      · rw [if_neg e2, if_neg (by omega)]
theorem rd_diffs {p q : Nat} {y : List Int} (h4 : y.length = 4) (i : Nat) : rd (diffs p q y) (i : Int) = if p ≤ i ∧ i < p + 4 then rd y ((i - p : Nat) : Int) else 0 := by
  simp only [rd, diffs, Int.toNat_natCast, List.getD_eq_getElem?_getD]
  by_cases h1 : i < p
  · rw [if_neg (by omega), List.getElem?_append_left (by simpa using h1), List.getElem?_replicate, if_pos h1]; rfl
  · rw [List.getElem?_append_right (by simpa using h1)]
    simp only [List.length_replicate]
    by_cases h2 : i < p + 4
    · rw [if_pos (by omega), List.getElem?_append_left (by omega)]
    · rw [if_neg (by omega), List.getElem?_append_right (by omega), List.getElem?_replicate]
      split <;> rfl
theorem turn_xor {s y : List Int} {p : Nat} (hs : okB s = true) (hy : okB y = true) (h4 : y.length = 4) (hp : p + 4 ≤ s.length) : turn s y p 4 = xorL s (diffs p (s.length - 4 - p) y) := by
  have hd : s.length = (diffs p (s.length - 4 - p) y).length := by simp [diffs, h4]; omega
  have hxl := xorL_length _ _ hd
  have hg : ∀ (l : List Int) (i : Nat) (h : i < l.length), l[i] = rd l (i : Int) := fun l i h => by simp [rd, h]
  refine List.ext_getElem (by rw [turn_length, hxl]) fun i h1 h2 => ?_
  rw [turn_length] at h1
  rw [hg, hg, turn_rd hs hy h4 hp 4 i (by omega) h1, xorL_rd _ _ i hd h1, rd_diffs h4]
  by_cases e : p ≤ i ∧ i < p + 4
  · rw [if_pos e, if_pos e]
  · rw [if_neg e, if_neg e]
    obtain ⟨a0, a1⟩ := okB_at hs (c := rd s (i : Int)) (by simp [rd, h1])
    simp
    omega

/-- Changed, it is Garbage. -/
theorem class_turn {a0 a1 a2 a3 a4 : Int} {l s m : List Int} {p : Nat} {b0 b1 b2 b3 e0 e1 e2 e3 e4 : Int} (ho : okB l = true) (hy : okB [b0, b1, b2, b3] = true) (hp : p ≤ 252) (hl : l.length ≤ 228) (es : s = sealT a0 a1 a2 a3 a4 l) (hc : chg [b0, b1, b2, b3] 4 = true) :
    block_Class.f 1000 (turn s [b0, b1, b2, b3] p 4) e0 e1 e2 e3 e4 m = some 4 := by
  have hs : okB s = true := by rw [es]; exact okB_sealT ho
  have hlen : s.length = 256 := by rw [es]; exact sealT_length hl
  have ht := turn_xor (p := p) hs hy rfl (by omega)
  have hd : s.length = (diffs p (s.length - 4 - p) [b0, b1, b2, b3]).length := by simp [diffs]; omega
  have hxo := xorL_ok _ _ hs (okB_diffs (p := p) (q := s.length - 4 - p) hy)
  have hxl := xorL_length _ _ hd
  have hB := sealB_length (a0 := a0) (a1 := a1) (a2 := a2) (a3 := a3) (a4 := a4) hl
  have hf := few (l := sealB a0 a1 a2 a3 a4 l) (p := p) (okB_sealB ho) hy rfl (by omega)
  have hwt : wholeS (turn s [b0, b1, b2, b3] p 4) = false := by
    rw [ht, es]
    unfold sealT
    rw [hB] at hf
    have e : (sealB a0 a1 a2 a3 a4 l ++ le4 (moreS 0 (sealB a0 a1 a2 a3 a4 l))).length - 4 - p = 252 - p := by
      have : (sealB a0 a1 a2 a3 a4 l ++ le4 (moreS 0 (sealB a0 a1 a2 a3 a4 l))).length = 256 := sealT_length hl
      omega
    rw [e, hf]
    have e1 : (([b0, b1, b2, b3] : List Int) == [0, 0, 0, 0]) = (b0 == 0 && (b1 == 0 && (b2 == 0 && (b3 == 0 && true)))) := rfl
    have e2 : chg [b0, b1, b2, b3] 4 = (!(b0 == 0) || (!(b1 == 0) || (!(b2 == 0) || (!(b3 == 0) || false)))) := rfl
    rw [e2] at hc
    rw [e1]
    revert hc
    cases (b0 == 0) <;> cases (b1 == 0) <;> cases (b2 == 0) <;> cases (b3 == 0) <;> simp
  rw [class_f (by omega) (by rw [ht]; exact hxo) (by rw [turn_length, hlen]; omega)]
  have hne : (openS (turn s [b0, b1, b2, b3] p 4)).2.2.2.2.2.2 ≠ 0 := by
    unfold openS
    rw [if_pos (by rw [turn_length, hlen])]
    rw [if_neg (fun hh => by rw [hh.2.2] at hwt; unfold sealT at hwt; rw [wholeS_seal] at hwt; cases hwt)]
    decide
  unfold classS
  rw [if_neg hne]
/-- All noughts are Garbage. -/
theorem class_zeros {m : List Int} {e0 e1 e2 e3 e4 : Int} : block_Class.f 1000 (List.replicate 256 (0 : Int)) e0 e1 e2 e3 e4 m = some 4 := by
  rw [class_f (by omega) (okB_zeros 256) (by rw [List.length_replicate]; omega)]
  have hr : rd (List.replicate 256 (0 : Int)) 2 = 0 := by decide +kernel
  have hne : (openS (List.replicate 256 (0 : Int))).2.2.2.2.2.2 ≠ 0 := by
    unfold openS
    rw [if_pos (List.length_replicate)]
    rw [if_neg (fun hh => by have := (numS_of hh.2.1).1; rw [hr] at this; omega)]
    decide
  unfold classS
  rw [if_neg hne]
end Go.Proofs.Ytnpkndbhchmedaa.Few
