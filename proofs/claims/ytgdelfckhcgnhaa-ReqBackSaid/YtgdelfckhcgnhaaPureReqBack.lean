/- The plain law of ReqBack. No conditions beside those that each lemma states. -/
import Derived.Test.YtgdelfckhcgnhaaPx2
import Derived.Test.YtgdelfckhcgnhaaReqSame
namespace Go.Proofs.Ytgdelfckhcgnhaa.Pure
open Go Go.RowKit Go.Proofs.Ytgdelfckhcgnhaa.Pa Go.Proofs.Ytgdelfckhcgnhaa.Px Go.Proofs.YtgdelfckhcgnhaaW.PrintWords Go.Proofs.YtgdelfckhcgnhaaW.PrintLast Go.Proofs.Ytgdelfckhcgnhaa.Code Go.Proofs.Ytgdelfckhcgnhaa.Ext
set_option linter.unusedVariables false

theorem awake_f {k : Nat} (hk : 40 ≤ k) : quartermasterlaw21_awake.f k = some true := by
  obtain ⟨d, rfl⟩ : ∃ d, k = 40 + d := ⟨k - 40, by omega⟩
  clear hk
  induction d with
  | zero => decide +kernel
  | succ d ih => exact quartermasterlaw21_awake.mono _ _ ih
theorem wf64 {a : Int} (h : (Lit.int .i64 a).wf = true) : In64 a := by
  simp only [Lit.wf, Bool.and_eq_true, decide_eq_true_eq] at h
  have h1 : IntKind.i64.min = -9223372036854775808 := by decide
  have h2 : IntKind.i64.max = 9223372036854775807 := by decide
  rw [h1, h2] at h
  exact ⟨h.1, by omega⟩
theorem wf8 {l : List Int} (h : ∀ y ∈ l, (Lit.int .u8 y).wf = true) : Bytes l := fun y hy => by
  have := h y hy
  simp only [Lit.wf, Bool.and_eq_true, decide_eq_true_eq] at this
  have h1 : IntKind.u8.min = 0 := by decide
  have h2 : IntKind.u8.max = 255 := by decide
  rw [h1, h2] at this
  exact ⟨this.1, by omega⟩
theorem l3_of {L : List S93} (h : ∀ y ∈ L, qT93 y) : ∀ y ∈ L, L3 y := fun y hy => by
  have := h y hy
  exact ⟨wf64 this.1, wf64 this.2.1, wf64 this.2.2⟩
theorem l4_of {L : List S76} (h : ∀ y ∈ L, qT76 y) : ∀ y ∈ L, L4 y := fun y hy => by
  have := h y hy
  exact ⟨wf64 this.1, wf64 this.2.1, wf64 this.2.2.1, wf64 this.2.2.2⟩
theorem lim3B_of {L : List S93} (h : ∀ y ∈ L, L3 y) : L.all lim3B = true := by
  rw [List.all_eq_true]
  intro y hy
  have := h y hy
  simp only [lim3B, Bool.and_eq_true, in64B_iff]
  exact ⟨⟨this.1, this.2.1⟩, this.2.2⟩
theorem lim4B_of {L : List S76} (h : ∀ y ∈ L, L4 y) : L.all lim4B = true := by
  rw [List.all_eq_true]
  intro y hy
  have := h y hy
  simp only [lim4B, Bool.and_eq_true, in64B_iff]
  exact ⟨⟨⟨this.1, this.2.1⟩, this.2.2.1⟩, this.2.2.2⟩
theorem enc_f {n0 n1 n2 n3 n4 n5 n6 n7 n8 : Int} {L : List S93} (hn : ∀ x ∈ [n0, n1, n2, n3, n4, n5, n6, n7, n8], In64 x) (hL : ∀ y ∈ L, L3 y) (hl : L.length ≤ 20) : req_Encode.f n0 n1 n2 n3 n4 n5 n6 n7 n8 L = some (encP [n0, n1, n2, n3, n4, n5, n6, n7, n8] L) := by
  unfold req_Encode.f
  refine if_pos ?_
  simp only [okReq, Bool.and_eq_true, decide_eq_true_eq]
  refine ⟨?_, lim3B_of hL, hl⟩
  rw [List.all_eq_true]
  exact fun x hx => (in64B_iff x).2 (hn x hx)
theorem ans_f {c a b : Int} {L : List S93} {K : List S76} (hr : (⟨c, a, b, L, K⟩ : Rep).In) (hl : L.length ≤ 20) (hk : K.length ≤ 20) : req_Answer.f c a b L K = some (ansP ⟨c, a, b, L, K⟩) := by
  unfold req_Answer.f
  refine if_pos ?_
  simp only [okRep, Bool.and_eq_true, decide_eq_true_eq]
  refine ⟨⟨?_, lim3B_of hr.L⟩, lim4B_of hr.K, hl, hk⟩
  rw [List.all_eq_true]
  intro x hx
  rw [in64B_iff]
  simp only [List.mem_cons, List.not_mem_nil, or_false] at hx
  rcases hx with rfl | rfl | rfl
  · exact hr.c
  · exact hr.a
  · exact hr.b
theorem okBytes_in {l : List Int} (hb : Bytes l) (hl : l.length ≤ 140737488351232) : okBytes l = true := by
  simp only [okBytes, Bool.and_eq_true, decide_eq_true_eq]
  refine ⟨?_, hl⟩
  rw [List.all_eq_true]
  intro x hx
  simp only [Bool.and_eq_true, decide_eq_true_eq]
  exact hb x hx
theorem dec_f {l : List Int} (hb : Bytes l) (hl : l.length ≤ 140737488351232) : req_Decode.f l = some (tuple9 (decP l).1.1 (decP l).1.2 (decP l).2) := if_pos (okBytes_in hb hl)
theorem told_f {l : List Int} (hb : Bytes l) (hl : l.length ≤ 140737488351232) : req_Told.f l = some ((toldP l).1.c, (toldP l).1.a, (toldP l).1.b, (toldP l).1.L, (toldP l).1.K, (toldP l).2) := if_pos (okBytes_in hb hl)
theorem enc_len {n0 n1 n2 n3 n4 n5 n6 n7 n8 : Int} {L : List S93} (hn : ∀ x ∈ [n0, n1, n2, n3, n4, n5, n6, n7, n8], In64 x) (hL : ∀ y ∈ L, L3 y) (hl : L.length ≤ 20) : (encP [n0, n1, n2, n3, n4, n5, n6, n7, n8] L).1.length ≤ 100000 := by
  unfold encP
  split
  · have h0 := putN_len (s := (false, [])) (hn n0 (by simp)).2
    refine (fieldsW_len (k := n0) (s := putN (false, []) n0) hn (fun y hy => ⟨(hL y hy).1.2, (hL y hy).2.1.2, (hL y hy).2.2.2⟩) hl ?_).1
    simp only [List.length_nil] at h0
    omega
  · simp
theorem ans_len {r : Rep} (hr : r.In) (hl : r.L.length ≤ 20) (hk : r.K.length ≤ 20) : (ansP r).1.length ≤ 100000 := by
  unfold ansP
  split
  · simp
  · exact ansS_len ⟨hr.c, hr.a, hr.b, fun y hy => ⟨(hr.L y hy).1.2, (hr.L y hy).2.1.2, (hr.L y hy).2.2.2⟩, fun y hy => ⟨(hr.K y hy).1.2, (hr.K y hy).2.1.2, (hr.K y hy).2.2.1.2, (hr.K y hy).2.2.2.1, (hr.K y hy).2.2.2.2⟩, hl, hk⟩
theorem may_f {n0 n1 n2 n3 n4 n5 n6 n7 n8 : Int} {L : List S93} (hn : ∀ x ∈ [n0, n1, n2, n3, n4, n5, n6, n7, n8], In64 x) (hL : ∀ y ∈ L, L3 y) (hl : L.length ≤ 20) : req_May.f n0 n1 n2 n3 n4 n5 n6 n7 n8 L = some ((encP [n0, n1, n2, n3, n4, n5, n6, n7, n8] L).2 == 0) := by
  unfold req_May.f
  rw [enc_f hn hL hl]; rfl
theorem back_j1 {k : Nat} (hk : 40 ≤ k) {n0 n1 n2 n3 n4 n5 n6 n7 n8 c a b : Int} {L M : List S93} {K : List S76} (hn : ∀ x ∈ [n0, n1, n2, n3, n4, n5, n6, n7, n8], In64 x) (hL : ∀ y ∈ L, L3 y) (hl : L.length ≤ 20) (hr : (⟨c, a, b, M, K⟩ : Rep).In) (hm : M.length ≤ 20) (hK : K.length ≤ 20) :
    quartermasterlaw21_ReqBack.j1 (k + 1) (encP [n0, n1, n2, n3, n4, n5, n6, n7, n8] L).2 n0 n1 n2 n3 n4 n5 n6 n7 n8 L c a b M K = some true := by
  rw [quartermasterlaw21_ReqBack.j1, ans_f hr hm hK, Option.bind_some]
  have hlen := ans_len hr hm hK
  rcases ans_two ⟨c, a, b, M, K⟩ with h0 | ⟨h0, h1⟩
  · rw [if_pos h0, told_f (ans_reads hr h0).1 (by omega), told_ans hr h0]
    simp only [Option.bind_some]
    obtain ⟨r, e, hi⟩ := reps_f (k := k) c a b c a b M M K K (by omega) (by omega) (by omega) (by omega)
    rw [e, Option.bind_some, hi.2 rfl]; rfl
  · rw [if_neg (by rw [h0]; decide), may_f hn hL hl, Option.bind_some, h0, h1]
    simp
theorem ReqBack : quartermasterlaw21_ReqBack.Pure := by
  intro n0 n1 n2 n3 n4 n5 n6 n7 n8 L c a b M K hw0 hw1 hw2 hw3 hw4 hw5 hw6 hw7 hw8 _ hq h1 h2 h3 _ hq2 _ hq3
  have hn : ∀ x ∈ [n0, n1, n2, n3, n4, n5, n6, n7, n8], In64 x := by
    intro x hx
    simp only [List.mem_cons, List.not_mem_nil, or_false] at hx
    rcases hx with rfl | rfl | rfl | rfl | rfl | rfl | rfl | rfl | rfl <;> exact wf64 (by assumption)
  have hL := l3_of hq
  refine ⟨102, ?_⟩
  unfold quartermasterlaw21_ReqBack.f
  rw [awake_f (by omega), Option.bind_some, if_pos rfl]
  by_cases hl : (L.length : Int) > 20
  · rw [if_pos hl]; rfl
  rw [if_neg hl]
  by_cases hm : (M.length : Int) > 20
  · rw [if_pos hm]; rfl
  rw [if_neg hm]
  by_cases hK : (K.length : Int) > 20
  · rw [decide_eq_true hK]; rfl
  rw [decide_eq_false hK]
  have hr : (⟨c, a, b, M, K⟩ : Rep).In := ⟨wf64 h1, wf64 h2, wf64 h3, l3_of hq2, l4_of hq3, by simp only; omega, by simp only; omega⟩
  have hj := back_j1 (k := 100) (by omega) hn hL (by omega) hr (by omega) (by omega)
  rw [quartermasterlaw21_ReqBack.j0, if_neg (by decide), enc_f hn hL (by omega), Option.bind_some]
  by_cases h0 : (encP [n0, n1, n2, n3, n4, n5, n6, n7, n8] L).2 = 0
  · have hlen := enc_len hn hL (by omega)
    rw [if_pos h0, dec_f (enc_reads hn hL (by omega) h0).1 (by omega), dec_enc hn hL (by omega) h0]
    simp only [tuple9, Option.bind_some, List.getD_cons_zero, List.getD_cons_succ]
    obtain ⟨r, e, hi⟩ := reqs_iff (k := 81) (L := L) (M := L) (ns := [n0, n1, n2, n3, n4, n5, n6, n7, n8]) (ms := [n0, n1, n2, n3, n4, n5, n6, n7, n8]) rfl rfl (by omega) (by omega)
    rw [e, Option.bind_some, hi.2 ⟨rfl, rfl⟩, if_pos trivial, if_pos rfl, may_f hn hL (by omega), Option.bind_some, h0, if_pos (show ((0 : Int) == 0) = true from rfl), ← h0]
    exact hj
  · rw [if_neg h0]
    exact hj
end Go.Proofs.Ytgdelfckhcgnhaa.Pure
