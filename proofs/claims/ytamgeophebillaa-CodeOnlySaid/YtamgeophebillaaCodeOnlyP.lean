/- What is got would be put as the same bytes: the plain law. No program in sight. -/
import Derived.Test.YtamgeophebillaaCodeNil
namespace Go.Proofs.Ytamgeophebillaa.Code
open Go.RowKit
set_option linter.unusedVariables false

theorem only_num {b : List Int} (hb : Bytes b) : ((getNum b).e ≠ 0 → (getNum b).left = b ∧ (getNum b).v = 0) ∧ ((getNum b).e = 0 → 0 ≤ (getNum b).v ∧ (getNum b).v < 9223372036854775808 ∧ ∃ u, 0 < u ∧ u ≤ b.length ∧ digs (getNum b).v.toNat = b.take u ∧ (getNum b).left = b.drop u) := by
  unfold getNum
  by_cases h : (seen b).e = 0
  · rw [if_pos h]
    refine ⟨fun h => absurd rfl h, fun _ => ?_⟩
    rcases seen_cases hb with hc | hc
    · refine ⟨by simp, by simp only; omega, (seen b).long, hc.2.1, hc.2.2.1, ?_, rfl⟩
      have hs : seen b = look 0 0 b := by
        unfold seen at h ⊢
        split at h
        · cases h
        · rw [if_neg (by assumption)]
      rw [hs] at h ⊢
      rw [Int.toNat_natCast]
      exact put_look hb h
    · rcases hc.1 with hc | hc <;> rw [hc] at h <;> cases h
  · rw [if_neg h]
    exact ⟨fun _ => ⟨rfl, rfl⟩, fun h2 => absurd h2 h⟩
theorem only_int {b : List Int} (hb : Bytes b) : ((getInt b).e ≠ 0 → (getInt b).left = b ∧ (getInt b).v = 0) ∧ ((getInt b).e = 0 → -9223372036854775808 ≤ (getInt b).v ∧ (getInt b).v < 9223372036854775808 ∧ ∃ u, 0 < u ∧ u ≤ b.length ∧ digs (zig (getInt b).v) = b.take u ∧ (getInt b).left = b.drop u) := by
  unfold getInt
  by_cases h : (look 0 0 b).e = 0
  · rw [if_pos h]
    refine ⟨fun h => absurd rfl h, fun _ => ?_⟩
    rcases look_cases hb with hc | hc
    · have hp := put_look hb h
      have hz : zig (if (look 0 0 b).n % 2 = 1 then -((look 0 0 b).n / 2 : Nat) - 1 else ((look 0 0 b).n / 2 : Nat)) = (look 0 0 b).n := by
        unfold zig
        split <;> split <;> omega
      refine ⟨?_, ?_, (look 0 0 b).long, hc.2.1, hc.2.2.1, ?_, rfl⟩
      · simp only; split <;> omega
      · simp only; split <;> omega
      · simp only
        rw [hz]
        exact hp
    · rcases hc.1 with hc | hc <;> rw [hc] at h <;> cases h
  · rw [if_neg h]
    exact ⟨fun _ => ⟨rfl, rfl⟩, fun h2 => absurd h2 h⟩
theorem only_bytes {b : List Int} (hb : Bytes b) : ((getBytes b).e ≠ 0 → (getBytes b).left = b ∧ (getBytes b).v = []) ∧ ((getBytes b).e = 0 → (getBytes b).v.length ≤ 4096 ∧ ∃ u, 0 < u ∧ u ≤ b.length ∧ digs (getBytes b).v.length ++ (getBytes b).v = b.take u ∧ (getBytes b).left = b.drop u) := by
  unfold getBytes
  by_cases h : (seen b).e = 0
  · rw [if_pos h]
    have hs : seen b = look 0 0 b := by
      unfold seen at h ⊢
      split at h
      · cases h
      · rw [if_neg (by assumption)]
    rcases seen_cases hb with hc | hc
    · by_cases h1 : 4096 < (seen b).n
      · rw [if_pos h1]
        exact ⟨fun _ => ⟨rfl, rfl⟩, fun h => by cases h⟩
      · rw [if_neg h1]
        by_cases h2 : b.length - (seen b).long < (seen b).n
        · rw [if_pos h2]
          exact ⟨fun _ => ⟨rfl, rfl⟩, fun h => by cases h⟩
        · rw [if_neg h2]
          have hml : ((b.take ((seen b).long + (seen b).n)).drop (seen b).long).length = (seen b).n := by rw [List.length_drop, List.length_take]; omega
          refine ⟨fun h => absurd rfl h, fun _ => ⟨by simp only; rw [hml]; omega, (seen b).long + (seen b).n, by omega, by omega, ?_, rfl⟩⟩
          simp only
          rw [hml]
          have hp := put_look hb (hs ▸ h)
          rw [← hs] at hp
          rw [hp, List.drop_take, Nat.add_sub_cancel_left, ← List.take_add]
    · rcases hc.1 with hc | hc <;> rw [hc] at h <;> cases h
  · rw [if_neg h]
    exact ⟨fun _ => ⟨rfl, rfl⟩, fun h2 => absurd h2 h⟩
end Go.Proofs.Ytamgeophebillaa.Code
