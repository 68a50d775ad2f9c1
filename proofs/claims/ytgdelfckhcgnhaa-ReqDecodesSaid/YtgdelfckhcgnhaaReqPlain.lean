/- Requests and replies as bytes: plain laws. No program in sight. -/
import Derived.Test.YtgdelfckhcgnhaaReqRT
import Derived.Lib.Bytes
namespace Go.Proofs.Ytgdelfckhcgnhaa.Code
open Go.RowKit Go.Proofs.Ytgdelfckhcgnhaa.Pa Go.Proofs.YtgdelfckhcgnhaaW.PrintWords Go.Proofs.YtgdelfckhcgnhaaW.PrintLast Go.Proofs.YtgdelfckhcgnhaaW.PrintMore
set_option linter.unusedVariables false

structure Rep.In (r : Rep) : Prop where
  c : In64 r.c
  a : In64 r.a
  b : In64 r.b
  L : ∀ y ∈ r.L, L3 y
  K : ∀ y ∈ r.K, L4 y
  l : r.L.length ≤ 1000000
  k : r.K.length ≤ 1000000
theorem ans_reads {r : Rep} (hr : r.In) (h : (ansP r).2 = 0) : Bytes (ansP r).1 ∧ 0 ≤ r.c ∧ r.c < 10 ∧ ∀ t, toldS ((ansP r).1 ++ t) = ((false, t), r) := by
  obtain ⟨c, a, b, L, K⟩ := r
  obtain ⟨hc, ha, hb, hL, hK, hl, hk⟩ := hr
  simp only at hc ha hb hL hK hl hk
  unfold ansP at h ⊢
  by_cases hf : (ansS ⟨c, a, b, L, K⟩).1.1 = true
  · rw [if_pos hf] at h; cases h
  · rw [if_neg hf]
    have hf0 : (ansS ⟨c, a, b, L, K⟩).1.1 = false := by simpa using hf
    have hf' : (putEntries (putLines (putI (putI (putN (decide (10 ≤ c), []) c) a) b) L) K).1 = false := hf0
    obtain ⟨h4, d4, e4, b4, r4⟩ := rt_entries hK hk hf'
    obtain ⟨h3, d3, e3, b3, r3⟩ := rt_lines hL hl h4
    obtain ⟨h2, d2, e2, b2, r2⟩ := rt_int hb h3
    obtain ⟨h1, d1, e1, b1, r1⟩ := rt_int ha h2
    obtain ⟨h0, d0, e0, b0, r0⟩ := rt_num hc h1
    have hc0 := (rt_num0 h1).1
    have hc9 : ¬ 10 ≤ c := by simpa using h0
    have e : (ansS ⟨c, a, b, L, K⟩).1.2 = d0 ++ (d1 ++ (d2 ++ (d3 ++ d4))) := by
      show (putEntries (putLines (putI (putI (putN (decide (10 ≤ c), []) c) a) b) L) K).2 = _
      rw [e4, e3, e2, e1, e0]
      simp only [List.nil_append, List.append_assoc]
    rw [e]
    refine ⟨b0.append (b1.append (b2.append (b3.append b4))), hc0, by simp only; omega, fun t => ?_⟩
    have q0 := r0 (d1 ++ (d2 ++ (d3 ++ (d4 ++ t))))
    have q1 := r1 (d2 ++ (d3 ++ (d4 ++ t)))
    have q2 := r2 (d3 ++ (d4 ++ t))
    have q3 := r3 (d4 ++ t)
    have q4 := r4 t
    simp only [Prod.mk.injEq] at q0 q1 q2
    rw [show d0 ++ (d1 ++ (d2 ++ (d3 ++ d4))) ++ t = d0 ++ (d1 ++ (d2 ++ (d3 ++ (d4 ++ t)))) by simp only [List.append_assoc]]
    unfold toldS
    simp only [Do.reply, Do.r]
    rw [q0.1, q0.2, q1.1, q1.2, q2.1, q2.2, q3]
    simp only
    rw [q4]

/-! #### Are two lists of bytes the same? -/
theorem eqB_iff {a b : List Int} (ha : Bytes a) (hb : Bytes b) : eqB a b = (a == b) := by
  unfold eqB
  rw [Bool.eq_iff_iff]
  simp only [beq_iff_eq]
  constructor
  · intro h
    have h2 : (a.map fun n => UInt8.ofNat n.toNat) = (b.map fun n => UInt8.ofNat n.toNat) := by
      have e : ∀ x : List Int, (strOfNums x).toList = x.map fun n => UInt8.ofNat n.toNat := fun x => by
        rw [Lib.strOfNums_toList]; rfl
      rw [← e a, ← e b, h]
    have h3 : ∀ (a b : List Int), Bytes a → Bytes b → (a.map fun n => UInt8.ofNat n.toNat) = (b.map fun n => UInt8.ofNat n.toNat) → a = b := fun a => by
      induction a with
      | nil => intro b _ _ h; cases b with
        | nil => rfl
        | cons y r => cases h
      | cons x r ih =>
        intro b ha hb h
        cases b with
        | nil => cases h
        | cons y s =>
          simp only [List.map_cons, List.cons.injEq] at h
          have hx := ha x (List.mem_cons_self ..)
          have hy := hb y (List.mem_cons_self ..)
          have e1 : (UInt8.ofNat x.toNat).toNat = (UInt8.ofNat y.toNat).toNat := by rw [h.1]
          simp only [UInt8.toNat_ofNat'] at e1
          rw [Nat.mod_eq_of_lt (by omega), Nat.mod_eq_of_lt (by omega)] at e1
          rw [show x = y by omega, ih s (fun z hz => ha z (List.mem_cons_of_mem _ hz)) (fun z hz => hb z (List.mem_cons_of_mem _ hz)) h.2]
    exact h3 a b ha hb h2
  · intro h; rw [h]
theorem eqB_self (a : List Int) : eqB a a = true := by unfold eqB; simp

/-! #### Requests -/
theorem dec_two (l : List Int) : (decP l).2 = 0 ∨ ((decP l).2 = 7 ∧ (decP l).1 = ([0, 0, 0, 0, 0, 0, 0, 0, 0], [])) := by
  unfold decP
  split
  · exact .inl rfl
  · exact .inr ⟨rfl, rfl⟩
theorem dec_shape {l : List Int} (hb : Bytes l) : ∃ n0 n1 n2 n3 n4 n5 n6 n7 n8, (decP l).1.1 = [n0, n1, n2, n3, n4, n5, n6, n7, n8] ∧ (∀ x ∈ (decP l).1.1, In64 x) ∧ (∀ y ∈ (decP l).1.2, L3 y) ∧ (decP l).1.2.length ≤ 4 := by
  have hlf : ∀ s : Bool × List Int, RB s → ∀ j, ∀ y ∈ (getLineN s j).2, L3 y := fun s hs j => by
    induction j with
    | zero => exact fun _ h => by cases h
    | succ j ih =>
      intro y hy
      rcases List.mem_append.1 hy with h2 | h2
      · exact ih y h2
      · rw [List.mem_singleton.1 h2]
        have h1 := (lineN_fits hs j).1
        exact ⟨(num_fits h1).1.2, (num_fits h1.getN).1.2, (num_fits h1.getN.getN).1.2⟩
  have hk64 := (num_fits hb).1.2
  have hns : ∀ x ∈ [(getNum l).v, 0, 0, 0, 0, 0, 0, 0, 0], In64 x := fun x hx => by
    rcases List.mem_cons.1 hx with rfl | hx
    · exact hk64
    · have : x = 0 := by simpa using hx
      rw [this]; exact In64.zero
  have hf := fieldsR_fits (k := (getNum l).v) (s := getN (false, l)) (RB.getN (s := (false, l)) hb) hns
  have h3 : ∀ y ∈ (decS l).2, L3 y := by
    have h18 := (stepsR_fits [1, 8] (getN (false, l)) [(getNum l).v, 0, 0, 0, 0, 0, 0, 0, 0] (RB.getN (s := (false, l)) hb) hns).1
    unfold decS
    refine Do.fields_cases (Q := fun P => ∀ y ∈ P.2, L3 y) Do.r _ _ _ [] ?_ ?_ ?_ ?_ ?_ ?_ ?_ ?_ ?_ ?_
    all_goals first
      | (intro y hy; cases hy; done)
      | exact hlf _ (h18.getM 4) _
  obtain ⟨-, f2, f3, -, f5⟩ := hf
  unfold decP
  split
  · simp only
    have hlen : (decS l).1.2.length = 9 := f3
    obtain ⟨n0, n1, n2, n3, n4, n5, n6, n7, n8, hm⟩ : ∃ n0 n1 n2 n3 n4 n5 n6 n7 n8, (decS l).1.2 = [n0, n1, n2, n3, n4, n5, n6, n7, n8] := by
      match (decS l).1.2, hlen with
      | [n0, n1, n2, n3, n4, n5, n6, n7, n8], _ => exact ⟨_, _, _, _, _, _, _, _, _, rfl⟩
    exact ⟨n0, n1, n2, n3, n4, n5, n6, n7, n8, hm, f2, h3, f5⟩
  · refine ⟨_, _, _, _, _, _, _, _, _, rfl, ?_, fun _ h => by (cases h), by simp⟩
    intro x hx
    have : x = 0 := by simpa using hx
    rw [this]; exact In64.zero
/-- What is decoded would be encoded so. -/
theorem enc_dec {l : List Int} (hb : Bytes l) (h : (decP l).2 = 0) : (encP (decP l).1.1 (decP l).1.2).2 = 0 ∧ (encP (decP l).1.1 (decP l).1.2).1 = l := by
  obtain ⟨n0, n1, n2, n3, n4, n5, n6, n7, n8, hm, h64, h3, h4⟩ := dec_shape hb
  have hbytes : (encP (decP l).1.1 (decP l).1.2).2 = 0 → Bytes (encP (decP l).1.1 (decP l).1.2).1 := by
    rw [hm]
    rw [hm] at h64
    intro he
    exact (enc_reads h64 h3 (by omega) he).1
  unfold decP at h ⊢ hbytes
  split at h
  · rename_i hc
    rw [if_pos hc] at hbytes
    rw [if_pos hc]
    simp only [Bool.and_eq_true, beq_iff_eq] at hc hbytes ⊢
    refine ⟨hc.2.1, ?_⟩
    have := hc.2.2
    rw [eqB_iff hb (hbytes hc.2.1)] at this
    exact (eq_of_beq this).symm
  · cases h
/-! #### Replies -/
end Go.Proofs.Ytgdelfckhcgnhaa.Code
