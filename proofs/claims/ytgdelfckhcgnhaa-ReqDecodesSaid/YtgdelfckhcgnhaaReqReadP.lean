/- What a reader reads, in plain Lean. No program in sight. -/
import Derived.Test.YtgdelfckhcgnhaaReqEnc
namespace Go.Proofs.Ytgdelfckhcgnhaa.Code
open Go.RowKit Go.Proofs.Ytgdelfckhcgnhaa.Pa Go.Proofs.YtgdelfckhcgnhaaW.PrintWords Go.Proofs.YtgdelfckhcgnhaaW.PrintLast Go.Proofs.YtgdelfckhcgnhaaW.PrintMore
set_option linter.unusedVariables false

theorem only_num {b : List Int} (hb : Bytes b) : ((getNum b).e ≠ 0 → (getNum b).left = b ∧ (getNum b).v = 0) ∧ ((getNum b).e = 0 → 0 ≤ (getNum b).v ∧ (getNum b).v < 9223372036854775808 ∧ ∃ u, 0 < u ∧ u ≤ b.length ∧ digs (getNum b).v.toNat = b.take u ∧ (getNum b).left = b.drop u) := by
  unfold getNum
  by_cases h : (seen b).e = 0
  · rw [if_pos h]
    refine ⟨fun h => absurd rfl h, fun _ => ?_⟩
    rcases seen_cases hb with hc | hc
    · refine ⟨by simp, by simp only; omega, (seen b).long, hc.2.1, hc.2.2.1, ?_, rfl⟩
      have hs : seen b = look 0 0 b := by
        unfold seen at h ⊢
        split at h
        · cases h
        · rw [if_neg (by assumption)]
      rw [hs] at h ⊢
      rw [Int.toNat_natCast]
      exact put_look hb h
    · rcases hc.1 with hc | hc <;> rw [hc] at h <;> cases h
  · rw [if_neg h]
    exact ⟨fun _ => ⟨rfl, rfl⟩, fun h2 => absurd h2 h⟩
theorem only_int {b : List Int} (hb : Bytes b) : ((getInt b).e ≠ 0 → (getInt b).left = b ∧ (getInt b).v = 0) ∧ ((getInt b).e = 0 → -9223372036854775808 ≤ (getInt b).v ∧ (getInt b).v < 9223372036854775808 ∧ ∃ u, 0 < u ∧ u ≤ b.length ∧ digs (zig (getInt b).v) = b.take u ∧ (getInt b).left = b.drop u) := by
  unfold getInt
  by_cases h : (look 0 0 b).e = 0
  · rw [if_pos h]
    refine ⟨fun h => absurd rfl h, fun _ => ?_⟩
    rcases look_cases hb with hc | hc
    · have hp := put_look hb h
      have hz : zig (if (look 0 0 b).n % 2 = 1 then -((look 0 0 b).n / 2 : Nat) - 1 else ((look 0 0 b).n / 2 : Nat)) = (look 0 0 b).n := by
        unfold zig
        split <;> split <;> omega
      refine ⟨?_, ?_, (look 0 0 b).long, hc.2.1, hc.2.2.1, ?_, rfl⟩
      · simp only; split <;> omega
      · simp only; split <;> omega
      · simp only
        rw [hz]
        exact hp
    · rcases hc.1 with hc | hc <;> rw [hc] at h <;> cases h
  · rw [if_neg h]
    exact ⟨fun _ => ⟨rfl, rfl⟩, fun h2 => absurd h2 h⟩
theorem Bytes.drop {b : List Int} (h : Bytes b) (n : Nat) : Bytes (b.drop n) := fun x hx => h x (List.mem_of_mem_drop hx)
theorem In64.zero : In64 0 := ⟨by decide, by decide⟩
/-- What is read fits, and what is left are bytes. -/
theorem num_fits {b : List Int} (hb : Bytes b) : (0 ≤ (getNum b).v ∧ In64 (getNum b).v) ∧ Bytes (getNum b).left := by
  have h := only_num hb
  by_cases he : (getNum b).e = 0
  · obtain ⟨h1, h2, u, _, _, _, h3⟩ := h.2 he
    exact ⟨⟨h1, by omega, h2⟩, h3 ▸ hb.drop u⟩
  · obtain ⟨h1, h2⟩ := h.1 he
    rw [h1, h2]
    exact ⟨⟨Int.le_refl _, In64.zero⟩, hb⟩
theorem int_fits {b : List Int} (hb : Bytes b) : In64 (getInt b).v ∧ Bytes (getInt b).left := by
  have h := only_int hb
  by_cases he : (getInt b).e = 0
  · obtain ⟨h1, h2, u, _, _, _, h3⟩ := h.2 he
    exact ⟨⟨h1, h2⟩, h3 ▸ hb.drop u⟩
  · obtain ⟨h1, h2⟩ := h.1 he
    rw [h1, h2]
    exact ⟨In64.zero, hb⟩
abbrev RB (s : Bool × List Int) : Prop := Bytes s.2
theorem RB.getN {s : Bool × List Int} (h : RB s) : RB (getN s) := (num_fits h).2
theorem RB.getI {s : Bool × List Int} (h : RB s) : RB (getI s) := (int_fits h).2
theorem RB.getM {s : Bool × List Int} (M : Int) (h : RB s) : RB (getM M s) := (num_fits h).2
theorem line1_fits {s : Bool × List Int} (h : RB s) : RB (getLine1 s).1 ∧ Lim3 (getLine1 s).2 := by
  have h1 := num_fits h
  have h2 := num_fits h.getN
  have h3 := num_fits h.getN.getN
  exact ⟨h.getN.getN.getN, h1.1.2.2, h2.1.2.2, h3.1.2.2⟩
theorem lineN_fits {s : Bool × List Int} (h : RB s) : ∀ j, RB (getLineN s j).1 ∧ ∀ y ∈ (getLineN s j).2, Lim3 y
  | 0 => ⟨h, fun _ h => by cases h⟩
  | j + 1 => by
    have ih := lineN_fits h j
    have h1 := line1_fits ih.1
    refine ⟨h1.1, fun y hy => ?_⟩
    rcases List.mem_append.1 hy with h2 | h2
    · exact ih.2 y h2
    · rw [List.mem_singleton.1 h2]; exact h1.2
theorem lines_fits {s : Bool × List Int} (h : RB s) : RB (getLines s).1 ∧ (∀ y ∈ (getLines s).2, Lim3 y) ∧ (getLines s).2.length ≤ 4 := by
  have h1 := lineN_fits (h.getM 4) (manyOf 4 s).toNat
  refine ⟨h1.1, h1.2, ?_⟩
  have : (getLines s).2.length = (manyOf 4 s).toNat := getLineN_len _ _
  have h2 : manyOf 4 s ≤ 4 := by unfold manyOf; split <;> omega
  omega
theorem entry1_fits {s : Bool × List Int} (h : RB s) : RB (getEntry1 s).1 ∧ Lim4 (getEntry1 s).2 := by
  have h1 := num_fits h
  have h2 := num_fits h.getN
  have h3 := num_fits h.getN.getN
  have h4 := int_fits h.getN.getN.getN
  exact ⟨h.getN.getN.getN.getI, h1.1.2.2, h2.1.2.2, h3.1.2.2, h4.1.1, h4.1.2⟩
theorem entryN_fits {s : Bool × List Int} (h : RB s) : ∀ j, RB (getEntryN s j).1 ∧ ∀ y ∈ (getEntryN s j).2, Lim4 y
  | 0 => ⟨h, fun _ h => by cases h⟩
  | j + 1 => by
    have ih := entryN_fits h j
    have h1 := entry1_fits ih.1
    refine ⟨h1.1, fun y hy => ?_⟩
    rcases List.mem_append.1 hy with h2 | h2
    · exact ih.2 y h2
    · rw [List.mem_singleton.1 h2]; exact h1.2
theorem entries_fits {s : Bool × List Int} (h : RB s) : RB (getEntrys s).1 ∧ (∀ y ∈ (getEntrys s).2, Lim4 y) ∧ (getEntrys s).2.length ≤ 8 := by
  have h1 := entryN_fits (h.getM 8) (manyOf 8 s).toNat
  refine ⟨h1.1, h1.2, ?_⟩
  have : (getEntrys s).2.length = (manyOf 8 s).toNat := getEntryN_len _ _
  have h2 : manyOf 8 s ≤ 8 := by unfold manyOf; split <;> omega
  omega
theorem stepR_fits {p : (Bool × List Int) × List Int} (i : Nat) (h : RB p.1) (hn : ∀ x ∈ p.2, In64 x) : RB (Do.r.step p i).1 ∧ (∀ x ∈ (Do.r.step p i).2, In64 x) ∧ (Do.r.step p i).2.length = p.2.length := by
  refine ⟨h.getN, fun x hx => ?_, by simp [Do.step]⟩
  rcases List.mem_or_eq_of_mem_set hx with h1 | rfl
  · exact hn x h1
  · exact (num_fits h).1.2
theorem stepWR_fits {p : (Bool × List Int) × List Int} (i : Nat) (h : RB p.1) (hn : ∀ x ∈ p.2, In64 x) : RB (Do.r.stepW p i).1 ∧ (∀ x ∈ (Do.r.stepW p i).2, In64 x) ∧ (Do.r.stepW p i).2.length = p.2.length := by
  refine ⟨h.getI, fun x hx => ?_, by simp [Do.stepW]⟩
  rcases List.mem_or_eq_of_mem_set hx with h1 | rfl
  · exact hn x h1
  · exact (int_fits h).1
theorem stepsR_fits : ∀ (idx : List Nat) (s : Bool × List Int) (ns : List Int), RB s → (∀ x ∈ ns, In64 x) → RB (Do.r.steps idx s ns).1 ∧ (∀ x ∈ (Do.r.steps idx s ns).2, In64 x) ∧ (Do.r.steps idx s ns).2.length = ns.length
  | [], s, ns, h, hn => ⟨h, hn, rfl⟩
  | i :: r, s, ns, h, hn => by
    have h1 := stepR_fits (p := (s, ns)) i h hn
    have h2 := stepsR_fits r (Do.r.step (s, ns) i).1 (Do.r.step (s, ns) i).2 h1.1 h1.2.1
    exact ⟨h2.1, h2.2.1, h2.2.2.trans h1.2.2⟩
theorem Do.fields_cases {σ : Type} {Q : (σ × List Int) × List S93 → Prop} (D : Do σ) (k : Int) (s : σ) (ns : List Int) (L : List S93) (h1 : Q (D.step (D.steps [1, 2, 3] s ns) 5, L)) (h2 : Q (D.stepW (D.steps [1, 2, 3] s ns) 5, L)) (h3 : Q (D.steps [1, 2, 3, 4, 5] s ns, L)) (h4 : Q (((D.lin (D.steps [1, 8] s ns).1 L).1, (D.steps [1, 8] s ns).2), (D.lin (D.steps [1, 8] s ns).1 L).2)) (h5 : Q (D.steps [1, 6, 7, 5] s ns, L)) (h6 : Q (D.steps [1, 6] s ns, L)) (h7 : Q (D.steps [8] s ns, L)) (h8 : Q (D.steps [2, 3] s ns, L)) (h9 : Q (D.steps [6] s ns, L)) (h0 : Q ((s, ns), L)) : Q (D.fields k s ns L) := by
  unfold Do.fields
  (repeat' split) <;> assumption
theorem fieldsR_fits {k : Int} {s : Bool × List Int} {ns : List Int} (h : RB s) (hn : ∀ x ∈ ns, In64 x) : RB (Do.r.fields k s ns []).1.1 ∧ (∀ x ∈ (Do.r.fields k s ns []).1.2, In64 x) ∧ (Do.r.fields k s ns []).1.2.length = ns.length ∧ (∀ y ∈ (Do.r.fields k s ns []).2, Lim3 y) ∧ (Do.r.fields k s ns []).2.length ≤ 4 := by
  have h123 := stepsR_fits [1, 2, 3] s ns h hn
  have h3 := stepsR_fits [1, 2, 3, 4, 5] s ns h hn
  have h18 := stepsR_fits [1, 8] s ns h hn
  have h5 := stepsR_fits [1, 6, 7, 5] s ns h hn
  have h6 := stepsR_fits [1, 6] s ns h hn
  have h7 := stepsR_fits [8] s ns h hn
  have h8 := stepsR_fits [2, 3] s ns h hn
  have h9 := stepsR_fits [6] s ns h hn
  have hl18 := lines_fits h18.1
  have a1 := stepR_fits 5 h123.1 h123.2.1
  have a2 := stepWR_fits 5 h123.1 h123.2.1
  have nil : (∀ y ∈ ([] : List S93), Lim3 y) ∧ ([] : List S93).length ≤ 4 := ⟨(fun _ h => by cases h), by simp⟩
  exact Do.fields_cases (Q := fun P => RB P.1.1 ∧ (∀ x ∈ P.1.2, In64 x) ∧ P.1.2.length = ns.length ∧ (∀ y ∈ P.2, Lim3 y) ∧ P.2.length ≤ 4) Do.r k s ns [] ⟨a1.1, a1.2.1, a1.2.2.trans h123.2.2, nil⟩ ⟨a2.1, a2.2.1, a2.2.2.trans h123.2.2, nil⟩ ⟨h3.1, h3.2.1, h3.2.2, nil⟩ ⟨hl18.1, h18.2.1, h18.2.2, hl18.2⟩ ⟨h5.1, h5.2.1, h5.2.2, nil⟩ ⟨h6.1, h6.2.1, h6.2.2, nil⟩ ⟨h7.1, h7.2.1, h7.2.2, nil⟩ ⟨h8.1, h8.2.1, h8.2.2, nil⟩ ⟨h9.1, h9.2.1, h9.2.2, nil⟩ ⟨h, hn, rfl, nil⟩
end Go.Proofs.Ytgdelfckhcgnhaa.Code
