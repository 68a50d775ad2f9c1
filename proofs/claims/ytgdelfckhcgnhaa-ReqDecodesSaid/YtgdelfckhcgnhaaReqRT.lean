/- What is written is read: plain laws of requests and replies. No program in sight. -/
import Derived.Test.YtgdelfckhcgnhaaReqTold
namespace Go.Proofs.Ytgdelfckhcgnhaa.Code
open Go.RowKit Go.Proofs.Ytgdelfckhcgnhaa.Pa Go.Proofs.YtgdelfckhcgnhaaW.PrintWords Go.Proofs.YtgdelfckhcgnhaaW.PrintLast Go.Proofs.YtgdelfckhcgnhaaW.PrintMore
set_option linter.unusedVariables false

inductive FOp where
  | n (i : Nat)
  | w (i : Nat)
  | l
variable {σ : Type}
def Do.op (D : Do σ) (p : (σ × List Int) × List S93) : FOp → (σ × List Int) × List S93
  | .n i => (D.step p.1 i, p.2)
  | .w i => (D.stepW p.1 i, p.2)
  | .l => (((D.lin p.1.1 p.2).1, p.1.2), (D.lin p.1.1 p.2).2)
def Do.ops (D : Do σ) (o : List FOp) (p : (σ × List Int) × List S93) : (σ × List Int) × List S93 := o.foldl D.op p
def opsOf (k : Int) : List FOp :=
  if k = 1 then [.n 1, .n 2, .n 3, .n 5] else
  if k = 2 then [.n 1, .n 2, .n 3, .w 5] else
  if k = 3 then [.n 1, .n 2, .n 3, .n 4, .n 5] else
  if k = 4 then [.n 1, .n 8, .l] else
  if k = 5 then [.n 1, .n 6, .n 7, .n 5] else
  if k = 6 then [.n 1, .n 6] else
  if k = 7 then [.n 8] else
  if k = 8 then [.n 2, .n 3] else
  if k = 9 then [.n 6] else
  if k = 10 then [.n 8] else []
theorem fields_ops (D : Do σ) (k : Int) (s : σ) (ns : List Int) (L : List S93) : D.fields k s ns L = D.ops (opsOf k) ((s, ns), L) := by
  unfold Do.fields opsOf
  by_cases h1 : k = 1
  · rw [if_pos h1, if_pos h1]; rfl
  rw [if_neg h1, if_neg h1]
  by_cases h2 : k = 2
  · rw [if_pos h2, if_pos h2]; rfl
  rw [if_neg h2, if_neg h2]
  by_cases h3 : k = 3
  · rw [if_pos h3, if_pos h3]; rfl
  rw [if_neg h3, if_neg h3]
  by_cases h4 : k = 4
  · rw [if_pos h4, if_pos h4]; rfl
  rw [if_neg h4, if_neg h4]
  by_cases h5 : k = 5
  · rw [if_pos h5, if_pos h5]; rfl
  rw [if_neg h5, if_neg h5]
  by_cases h6 : k = 6
  · rw [if_pos h6, if_pos h6]; rfl
  rw [if_neg h6, if_neg h6]
  by_cases h7 : k = 7
  · rw [if_pos h7, if_pos h7]; rfl
  rw [if_neg h7, if_neg h7]
  by_cases h8 : k = 8
  · rw [if_pos h8, if_pos h8]; rfl
  rw [if_neg h8, if_neg h8]
  by_cases h9 : k = 9
  · rw [if_pos h9, if_pos h9]; rfl
  rw [if_neg h9, if_neg h9]
  by_cases h10 : k = 10
  · rw [if_pos h10, if_pos h10]; rfl
  rw [if_neg h10, if_neg h10]; rfl

/-- What is written from s to s' is read. -/
def RT {α : Type} (s s' : Bool × List Int) (rd : Bool × List Int → (Bool × List Int) × α) (v : α) : Prop :=
  s'.1 = false → s.1 = false ∧ ∃ d, s'.2 = s.2 ++ d ∧ Bytes d ∧ ∀ t, rd (false, d ++ t) = ((false, t), v)
theorem rt_num {s : Bool × List Int} {x : Int} (hx : In64 x) : RT s (putN s x) (fun r => (getN r, (getNum r.2).v)) x := by
  intro h
  unfold putN at h ⊢
  simp only [Bool.or_eq_false_iff, decide_eq_false_iff_not] at h
  refine ⟨h.2, digs x.toNat, by simp only; rw [if_neg h.1], digs_bytes _, fun t => ?_⟩
  simp only [getN]
  rw [getNum_put (by omega) hx.2]
  rfl
theorem rt_num0 {s : Bool × List Int} {x : Int} (h : (putN s x).1 = false) : 0 ≤ x ∧ s.1 = false ∧ putN s x = (false, s.2 ++ digs x.toNat) := by
  unfold putN at h ⊢
  simp only [Bool.or_eq_false_iff, decide_eq_false_iff_not] at h
  refine ⟨by omega, h.2, ?_⟩
  rw [if_neg h.1, h.2, decide_eq_false h.1]; rfl
theorem rt_int {s : Bool × List Int} {x : Int} (hx : In64 x) : RT s (putI s x) (fun r => (getI r, (getInt r.2).v)) x := by
  intro h
  refine ⟨h, digs (zig x), rfl, digs_bytes _, fun t => ?_⟩
  simp only [getI]
  rw [getInt_put hx.1 hx.2]
  rfl
theorem rt_line {s : Bool × List Int} {y : S93} (hy : In64 y.f0 ∧ In64 y.f1 ∧ In64 y.f2) : RT s (putLine s y) getLine1 y := by
  intro h
  obtain ⟨h2, d2, e2, b2, r2⟩ := rt_num (s := putN (putN s y.f0) y.f1) hy.2.2 h
  obtain ⟨h1, d1, e1, b1, r1⟩ := rt_num (s := putN s y.f0) hy.2.1 h2
  obtain ⟨h0, d0, e0, b0, r0⟩ := rt_num (s := s) hy.1 h1
  refine ⟨h0, d0 ++ d1 ++ d2, ?_, (b0.append b1).append b2, fun t => ?_⟩
  · show (putN (putN (putN s y.f0) y.f1) y.f2).2 = _
    rw [e2, e1, e0]; simp only [List.append_assoc]
  · have q0 := r0 (d1 ++ (d2 ++ t))
    have q1 := r1 (d2 ++ t)
    have q2 := r2 t
    simp only [Prod.mk.injEq] at q0 q1 q2
    unfold getLine1
    rw [show d0 ++ d1 ++ d2 ++ t = d0 ++ (d1 ++ (d2 ++ t)) by simp only [List.append_assoc]]
    rw [q0.1, q1.1, q2.1, q0.2, q1.2, q2.2]
def L3 (y : S93) : Prop := In64 y.f0 ∧ In64 y.f1 ∧ In64 y.f2
def L4 (y : S76) : Prop := In64 y.f0 ∧ In64 y.f1 ∧ In64 y.f2 ∧ In64 y.f3
theorem rt_linesN {s : Bool × List Int} {L : List S93} (hL : ∀ y ∈ L, L3 y) : ∀ j, j ≤ L.length → (linesTo s L j).1 = false → s.1 = false ∧ L.length ≤ 4 ∧ ∃ d, (linesTo s L j).2 = s.2 ++ digs L.length ++ d ∧ Bytes d ∧ ∀ t, getLineN (false, d ++ t) j = ((false, t), L.take j)
  | 0, _, h => by
    rw [linesTo_zero] at h ⊢
    obtain ⟨_, h1, h2⟩ := rt_num0 h
    simp only [Bool.or_eq_false_iff, decide_eq_false_iff_not] at h1
    refine ⟨h1.1, by omega, [], ?_, (fun x hx => by cases hx), fun t => rfl⟩
    rw [h2]
    simp
  | j + 1, hj, h => by
    have hj' : j < L.length := by omega
    rw [linesTo_succ s hj'] at h ⊢
    obtain ⟨h1, d1, e1, b1, r1⟩ := rt_line (s := linesTo s L j) (hL _ (List.getElem_mem hj')) h
    obtain ⟨h2, h3, d, e, b, r⟩ := rt_linesN hL j (by omega) h1
    refine ⟨h2, h3, d ++ d1, by rw [e1, e, List.append_assoc], b.append b1, fun t => ?_⟩
    have q := r (d1 ++ t)
    have q1 := r1 t
    rw [List.append_assoc]
    show ((getLine1 (getLineN (false, d ++ (d1 ++ t)) j).1).1, (getLineN (false, d ++ (d1 ++ t)) j).2 ++ [(getLine1 (getLineN (false, d ++ (d1 ++ t)) j).1).2]) = _
    rw [q]
    simp only
    rw [q1, List.take_succ_eq_append_getElem hj']
theorem getM_put {n : Nat} (M : Int) (h : (n : Int) ≤ M) (hn : n < 9223372036854775808) (t : List Int) : getM M (false, digs n ++ t) = (false, t) ∧ manyOf M (false, digs n ++ t) = n := by
  have e := getNum_put (n := (n : Int)) (by omega) (by omega) t
  rw [Int.toNat_natCast] at e
  unfold getM manyOf getN
  simp only [e]
  refine ⟨?_, by rw [if_neg (by omega)]⟩
  rw [decide_eq_false (by omega)]; rfl
theorem rt_lines {s : Bool × List Int} {L : List S93} (hL : ∀ y ∈ L, L3 y) (hl : L.length ≤ 1000000) : RT s (putLines s L) getLines L := by
  intro h
  rw [← linesTo_all] at h ⊢
  obtain ⟨h1, h2, d, e, b, r⟩ := rt_linesN hL L.length (Nat.le_refl _) h
  refine ⟨h1, digs L.length ++ d, by rw [e, List.append_assoc], (digs_bytes _).append b, fun t => ?_⟩
  have g := getM_put (n := L.length) 4 (by omega) (by omega) (d ++ t)
  unfold getLines
  rw [List.append_assoc, g.1, g.2, Int.toNat_natCast, r t, List.take_length]
theorem rt_entry {s : Bool × List Int} {y : S76} (hy : L4 y) : RT s (putEntry s y) getEntry1 y := by
  intro h
  obtain ⟨h3, d3, e3, b3, r3⟩ := rt_int (s := putN (putN (putN s y.f0) y.f1) y.f2) hy.2.2.2 h
  obtain ⟨h2, d2, e2, b2, r2⟩ := rt_num (s := putN (putN s y.f0) y.f1) hy.2.2.1 h3
  obtain ⟨h1, d1, e1, b1, r1⟩ := rt_num (s := putN s y.f0) hy.2.1 h2
  obtain ⟨h0, d0, e0, b0, r0⟩ := rt_num (s := s) hy.1 h1
  refine ⟨h0, d0 ++ d1 ++ d2 ++ d3, ?_, ((b0.append b1).append b2).append b3, fun t => ?_⟩
  · show (putI (putN (putN (putN s y.f0) y.f1) y.f2) y.f3).2 = _
    rw [e3, e2, e1, e0]; simp only [List.append_assoc]
  · have q0 := r0 (d1 ++ (d2 ++ (d3 ++ t)))
    have q1 := r1 (d2 ++ (d3 ++ t))
    have q2 := r2 (d3 ++ t)
    have q3 := r3 t
    simp only [Prod.mk.injEq] at q0 q1 q2 q3
    unfold getEntry1
    rw [show d0 ++ d1 ++ d2 ++ d3 ++ t = d0 ++ (d1 ++ (d2 ++ (d3 ++ t))) by simp only [List.append_assoc]]
    rw [q0.1, q1.1, q2.1, q3.1, q0.2, q1.2, q2.2, q3.2]
theorem rt_entriesN {s : Bool × List Int} {L : List S76} (hL : ∀ y ∈ L, L4 y) : ∀ j, j ≤ L.length → (entriesTo s L j).1 = false → s.1 = false ∧ L.length ≤ 8 ∧ ∃ d, (entriesTo s L j).2 = s.2 ++ digs L.length ++ d ∧ Bytes d ∧ ∀ t, getEntryN (false, d ++ t) j = ((false, t), L.take j)
  | 0, _, h => by
    rw [entriesTo_zero] at h ⊢
    obtain ⟨_, h1, h2⟩ := rt_num0 h
    simp only [Bool.or_eq_false_iff, decide_eq_false_iff_not] at h1
    refine ⟨h1.1, by omega, [], ?_, (fun x hx => by cases hx), fun t => rfl⟩
    rw [h2]
    simp
  | j + 1, hj, h => by
    have hj' : j < L.length := by omega
    rw [entriesTo_succ s hj'] at h ⊢
    obtain ⟨h1, d1, e1, b1, r1⟩ := rt_entry (s := entriesTo s L j) (hL _ (List.getElem_mem hj')) h
    obtain ⟨h2, h3, d, e, b, r⟩ := rt_entriesN hL j (by omega) h1
    refine ⟨h2, h3, d ++ d1, by rw [e1, e, List.append_assoc], b.append b1, fun t => ?_⟩
    have q := r (d1 ++ t)
    have q1 := r1 t
    rw [List.append_assoc]
    show ((getEntry1 (getEntryN (false, d ++ (d1 ++ t)) j).1).1, (getEntryN (false, d ++ (d1 ++ t)) j).2 ++ [(getEntry1 (getEntryN (false, d ++ (d1 ++ t)) j).1).2]) = _
    rw [q]
    simp only
    rw [q1, List.take_succ_eq_append_getElem hj']
theorem rt_entries {s : Bool × List Int} {L : List S76} (hL : ∀ y ∈ L, L4 y) (hl : L.length ≤ 1000000) : RT s (putEntries s L) getEntrys L := by
  intro h
  rw [← entriesTo_all] at h ⊢
  obtain ⟨h1, h2, d, e, b, r⟩ := rt_entriesN hL L.length (Nat.le_refl _) h
  refine ⟨h1, digs L.length ++ d, by rw [e, List.append_assoc], (digs_bytes _).append b, fun t => ?_⟩
  have g := getM_put (n := L.length) 8 (by omega) (by omega) (d ++ t)
  unfold getEntrys
  rw [List.append_assoc, g.1, g.2, Int.toNat_natCast, r t, List.take_length]

/-! #### Fields -/
def mvOp : (List Int × List S93) × (List Int × List S93) → FOp → (List Int × List S93) × (List Int × List S93)
  | ((ns, L), (ms, M)), .n i => ((ns.set i 0, L), (ms.set i (ns.getD i 0), M))
  | ((ns, L), (ms, M)), .w i => ((ns.set i 0, L), (ms.set i (ns.getD i 0), M))
  | ((ns, L), (ms, M)), .l => ((ns, []), (ms, L))
theorem In64.getD {ns : List Int} (h : ∀ x ∈ ns, In64 x) (i : Nat) : In64 (ns.getD i 0) := by
  rcases Nat.lt_or_ge i ns.length with h1 | h1
  · exact h _ (by simp [h1])
  · rw [List.getD_eq_getElem?_getD, List.getElem?_eq_none h1]; exact In64.zero
theorem In64.set {ns : List Int} (h : ∀ x ∈ ns, In64 x) (i : Nat) : ∀ x ∈ ns.set i 0, In64 x := fun x hx => by
  rcases List.mem_or_eq_of_mem_set hx with h1 | rfl
  · exact h x h1
  · exact In64.zero
theorem ops_rt : ∀ (o : List FOp) (sw : Bool × List Int) (ns ms : List Int) (L M : List S93), (∀ x ∈ ns, In64 x) → (∀ y ∈ L, L3 y) → L.length ≤ 1000000 →
    (Do.w.ops o ((sw, ns), L)).1.2 = (o.foldl mvOp ((ns, L), (ms, M))).1.1 ∧ (Do.w.ops o ((sw, ns), L)).2 = (o.foldl mvOp ((ns, L), (ms, M))).1.2 ∧
    ((Do.w.ops o ((sw, ns), L)).1.1.1 = false → sw.1 = false ∧ ∃ d, (Do.w.ops o ((sw, ns), L)).1.1.2 = sw.2 ++ d ∧ Bytes d ∧ ∀ t, Do.r.ops o (((false, d ++ t), ms), M) = (((false, t), (o.foldl mvOp ((ns, L), (ms, M))).2.1), (o.foldl mvOp ((ns, L), (ms, M))).2.2))
  | [], sw, ns, ms, L, M, _, _, _ => ⟨rfl, rfl, fun h => ⟨h, [], by simp [Do.ops], (fun x hx => by cases hx), fun t => rfl⟩⟩
  | .n i :: o, sw, ns, ms, L, M, hn, hL, hl => by
    have ih := ops_rt o (putN sw (ns.getD i 0)) (ns.set i 0) (ms.set i (ns.getD i 0)) L M (In64.set hn i) hL hl
    refine ⟨ih.1, ih.2.1, fun h => ?_⟩
    obtain ⟨h1, d1, e1, b1, r1⟩ := ih.2.2 h
    obtain ⟨h0, d0, e0, b0, r0⟩ := rt_num (s := sw) (In64.getD hn i) h1
    refine ⟨h0, d0 ++ d1, ?_, b0.append b1, fun t => ?_⟩
    · exact e1.trans (by rw [e0, List.append_assoc])
    · have q := r0 (d1 ++ t)
      simp only [Prod.mk.injEq] at q
      rw [List.append_assoc]
      have e : Do.r.op (((false, d0 ++ (d1 ++ t)), ms), M) (.n i) = (((false, d1 ++ t), ms.set i (ns.getD i 0)), M) := by
        show ((getN (false, d0 ++ (d1 ++ t)), ms.set i (getNum (d0 ++ (d1 ++ t))).v), M) = _
        rw [q.1, q.2]
      show Do.r.ops o (Do.r.op (((false, d0 ++ (d1 ++ t)), ms), M) (.n i)) = _
      rw [e]
      exact r1 t
  | .w i :: o, sw, ns, ms, L, M, hn, hL, hl => by
    have ih := ops_rt o (putI sw (ns.getD i 0)) (ns.set i 0) (ms.set i (ns.getD i 0)) L M (In64.set hn i) hL hl
    refine ⟨ih.1, ih.2.1, fun h => ?_⟩
    obtain ⟨h1, d1, e1, b1, r1⟩ := ih.2.2 h
    obtain ⟨h0, d0, e0, b0, r0⟩ := rt_int (s := sw) (In64.getD hn i) h1
    refine ⟨h0, d0 ++ d1, ?_, b0.append b1, fun t => ?_⟩
    · exact e1.trans (by rw [e0, List.append_assoc])
    · have q := r0 (d1 ++ t)
      simp only [Prod.mk.injEq] at q
      rw [List.append_assoc]
      have e : Do.r.op (((false, d0 ++ (d1 ++ t)), ms), M) (.w i) = (((false, d1 ++ t), ms.set i (ns.getD i 0)), M) := by
        show ((getI (false, d0 ++ (d1 ++ t)), ms.set i (getInt (d0 ++ (d1 ++ t))).v), M) = _
        rw [q.1, q.2]
      show Do.r.ops o (Do.r.op (((false, d0 ++ (d1 ++ t)), ms), M) (.w i)) = _
      rw [e]
      exact r1 t
  | .l :: o, sw, ns, ms, L, M, hn, hL, hl => by
    have ih := ops_rt o (putLines sw L) ns ms [] L hn (fun _ h => by cases h) (by simp)
    refine ⟨ih.1, ih.2.1, fun h => ?_⟩
    obtain ⟨h1, d1, e1, b1, r1⟩ := ih.2.2 h
    obtain ⟨h0, d0, e0, b0, r0⟩ := rt_lines (s := sw) hL hl h1
    refine ⟨h0, d0 ++ d1, ?_, b0.append b1, fun t => ?_⟩
    · exact e1.trans (by rw [e0, List.append_assoc])
    · have q := r0 (d1 ++ t)
      rw [List.append_assoc]
      have e : Do.r.op (((false, d0 ++ (d1 ++ t)), ms), M) .l = (((false, d1 ++ t), ms), L) := by
        show (((getLines (false, d0 ++ (d1 ++ t))).1, ms), (getLines (false, d0 ++ (d1 ++ t))).2) = _
        rw [q]
      show Do.r.ops o (Do.r.op (((false, d0 ++ (d1 ++ t)), ms), M) .l) = _
      rw [e]
      exact r1 t
/-- What was encoded is read, whatever stands behind. -/
theorem enc_reads {n0 n1 n2 n3 n4 n5 n6 n7 n8 : Int} {L : List S93} (hn : ∀ x ∈ [n0, n1, n2, n3, n4, n5, n6, n7, n8], In64 x) (hL : ∀ y ∈ L, L3 y) (hl : L.length ≤ 1000000) (h : (encP [n0, n1, n2, n3, n4, n5, n6, n7, n8] L).2 = 0) :
    Bytes (encP [n0, n1, n2, n3, n4, n5, n6, n7, n8] L).1 ∧ okKind n0 = true ∧ ∀ t, (getNum ((encP [n0, n1, n2, n3, n4, n5, n6, n7, n8] L).1 ++ t)).v = n0 ∧ decS ((encP [n0, n1, n2, n3, n4, n5, n6, n7, n8] L).1 ++ t) = (((false, t), [n0, n1, n2, n3, n4, n5, n6, n7, n8]), L) := by
  unfold encP at h ⊢
  by_cases hc : (okKind ([n0, n1, n2, n3, n4, n5, n6, n7, n8].getD 0 0) && !(encS [n0, n1, n2, n3, n4, n5, n6, n7, n8] L).1.1.1 && (zeros (encS [n0, n1, n2, n3, n4, n5, n6, n7, n8] L).1.2 && (encS [n0, n1, n2, n3, n4, n5, n6, n7, n8] L).2.length == 0)) = true
  · rw [if_pos hc]
    simp only [Bool.and_eq_true, Bool.not_eq_true', beq_iff_eq, List.getD_cons_zero] at hc ⊢
    obtain ⟨⟨hk, hf⟩, hz, hl0⟩ := hc
    have hk2 : 1 ≤ n0 ∧ n0 ≤ 10 := of_decide_eq_true hk
    have hs0 : putN (false, []) n0 = (false, digs n0.toNat) := by
      unfold putN
      rw [if_neg (by omega), decide_eq_false (by omega)]; rfl
    have hS : encS [n0, n1, n2, n3, n4, n5, n6, n7, n8] L = Do.w.ops (opsOf n0) (((false, digs n0.toNat), [n0, n1, n2, n3, n4, n5, n6, n7, n8]), L) := by
      unfold encS
      rw [fields_ops, List.getD_cons_zero, hs0]
    have hops := ops_rt (opsOf n0) (false, digs n0.toNat) [n0, n1, n2, n3, n4, n5, n6, n7, n8] [n0, 0, 0, 0, 0, 0, 0, 0, 0] L [] hn hL hl
    rw [← hS] at hops
    obtain ⟨o1, o2, o3⟩ := hops
    obtain ⟨-, d, e, b, r⟩ := o3 hf
    rw [o1] at hz
    rw [o2] at hl0
    have hmv : (List.foldl mvOp (([n0, n1, n2, n3, n4, n5, n6, n7, n8], L), ([n0, 0, 0, 0, 0, 0, 0, 0, 0], [])) (opsOf n0)).2 = ([n0, n1, n2, n3, n4, n5, n6, n7, n8], L) := by
      rcases (by omega : n0 = 1 ∨ n0 = 2 ∨ n0 = 3 ∨ n0 = 4 ∨ n0 = 5 ∨ n0 = 6 ∨ n0 = 7 ∨ n0 = 8 ∨ n0 = 9 ∨ n0 = 10) with h | h | h | h | h | h | h | h | h | h
      all_goals
        subst h
        simp [opsOf, mvOp, zeros] at hz hl0 ⊢
        simp [hz, hl0]
    rw [hmv] at r
    rw [e]
    refine ⟨(digs_bytes _).append b, hk, fun t => ?_⟩
    have g := getNum_put (n := n0) (by omega) (by omega) (d ++ t)
    have gv : (getNum (digs n0.toNat ++ d ++ t)).v = n0 := by rw [List.append_assoc, g]
    refine ⟨gv, ?_⟩
    have gn : getN (false, digs n0.toNat ++ d ++ t) = (false, d ++ t) := by
      unfold getN
      simp only [List.append_assoc, g]
      rfl
    unfold decS
    rw [gv, fields_ops, gn]
    exact r t
  · rw [if_neg hc] at h
    cases h
end Go.Proofs.Ytgdelfckhcgnhaa.Code
