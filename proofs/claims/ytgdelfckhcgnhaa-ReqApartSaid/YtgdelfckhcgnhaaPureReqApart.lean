/- The plain law of ReqApart. No conditions beside those that each lemma states. -/
import Derived.Test.YtgdelfckhcgnhaaPz2
import Derived.Test.YtgdelfckhcgnhaaReqSame
namespace Go.Proofs.Ytgdelfckhcgnhaa.Pure
open Go Go.RowKit Go.Proofs.Ytgdelfckhcgnhaa.Pa Go.Proofs.Ytgdelfckhcgnhaa.Pz Go.Proofs.YtgdelfckhcgnhaaW.PrintWords Go.Proofs.YtgdelfckhcgnhaaW.PrintLast Go.Proofs.Ytgdelfckhcgnhaa.Code Go.Proofs.Ytgdelfckhcgnhaa.Ext
set_option linter.unusedVariables false

theorem awake_f {k : Nat} (hk : 40 ≤ k) : quartermasterlaw21_awake.f k = some true := by
  obtain ⟨d, rfl⟩ : ∃ d, k = 40 + d := ⟨k - 40, by omega⟩
  clear hk
  induction d with
  | zero => decide +kernel
  | succ d ih => exact quartermasterlaw21_awake.mono _ _ ih
theorem wf64 {a : Int} (h : (Lit.int .i64 a).wf = true) : In64 a := by
  simp only [Lit.wf, Bool.and_eq_true, decide_eq_true_eq] at h
  have h1 : IntKind.i64.min = -9223372036854775808 := by decide
  have h2 : IntKind.i64.max = 9223372036854775807 := by decide
  rw [h1, h2] at h
  exact ⟨h.1, by omega⟩
theorem wf8 {l : List Int} (h : ∀ y ∈ l, (Lit.int .u8 y).wf = true) : Bytes l := fun y hy => by
  have := h y hy
  simp only [Lit.wf, Bool.and_eq_true, decide_eq_true_eq] at this
  have h1 : IntKind.u8.min = 0 := by decide
  have h2 : IntKind.u8.max = 255 := by decide
  rw [h1, h2] at this
  exact ⟨this.1, by omega⟩
theorem l3_of {L : List S93} (h : ∀ y ∈ L, qT93 y) : ∀ y ∈ L, L3 y := fun y hy => by
  have := h y hy
  exact ⟨wf64 this.1, wf64 this.2.1, wf64 this.2.2⟩
theorem l4_of {L : List S76} (h : ∀ y ∈ L, qT76 y) : ∀ y ∈ L, L4 y := fun y hy => by
  have := h y hy
  exact ⟨wf64 this.1, wf64 this.2.1, wf64 this.2.2.1, wf64 this.2.2.2⟩
theorem lim3B_of {L : List S93} (h : ∀ y ∈ L, L3 y) : L.all lim3B = true := by
  rw [List.all_eq_true]
  intro y hy
  have := h y hy
  simp only [lim3B, Bool.and_eq_true, in64B_iff]
  exact ⟨⟨this.1, this.2.1⟩, this.2.2⟩
theorem lim4B_of {L : List S76} (h : ∀ y ∈ L, L4 y) : L.all lim4B = true := by
  rw [List.all_eq_true]
  intro y hy
  have := h y hy
  simp only [lim4B, Bool.and_eq_true, in64B_iff]
  exact ⟨⟨⟨this.1, this.2.1⟩, this.2.2.1⟩, this.2.2.2⟩
theorem enc_f {n0 n1 n2 n3 n4 n5 n6 n7 n8 : Int} {L : List S93} (hn : ∀ x ∈ [n0, n1, n2, n3, n4, n5, n6, n7, n8], In64 x) (hL : ∀ y ∈ L, L3 y) (hl : L.length ≤ 20) : req_Encode.f n0 n1 n2 n3 n4 n5 n6 n7 n8 L = some (encP [n0, n1, n2, n3, n4, n5, n6, n7, n8] L) := by
  unfold req_Encode.f
  refine if_pos ?_
  simp only [okReq, Bool.and_eq_true, decide_eq_true_eq]
  refine ⟨?_, lim3B_of hL, hl⟩
  rw [List.all_eq_true]
  exact fun x hx => (in64B_iff x).2 (hn x hx)
theorem ans_f {c a b : Int} {L : List S93} {K : List S76} (hr : (⟨c, a, b, L, K⟩ : Rep).In) (hl : L.length ≤ 20) (hk : K.length ≤ 20) : req_Answer.f c a b L K = some (ansP ⟨c, a, b, L, K⟩) := by
  unfold req_Answer.f
  refine if_pos ?_
  simp only [okRep, Bool.and_eq_true, decide_eq_true_eq]
  refine ⟨⟨?_, lim3B_of hr.L⟩, lim4B_of hr.K, hl, hk⟩
  rw [List.all_eq_true]
  intro x hx
  rw [in64B_iff]
  simp only [List.mem_cons, List.not_mem_nil, or_false] at hx
  rcases hx with rfl | rfl | rfl
  · exact hr.c
  · exact hr.a
  · exact hr.b
theorem okBytes_in {l : List Int} (hb : Bytes l) (hl : l.length ≤ 140737488351232) : okBytes l = true := by
  simp only [okBytes, Bool.and_eq_true, decide_eq_true_eq]
  refine ⟨?_, hl⟩
  rw [List.all_eq_true]
  intro x hx
  simp only [Bool.and_eq_true, decide_eq_true_eq]
  exact hb x hx
theorem dec_f {l : List Int} (hb : Bytes l) (hl : l.length ≤ 140737488351232) : req_Decode.f l = some (tuple9 (decP l).1.1 (decP l).1.2 (decP l).2) := if_pos (okBytes_in hb hl)
theorem told_f {l : List Int} (hb : Bytes l) (hl : l.length ≤ 140737488351232) : req_Told.f l = some ((toldP l).1.c, (toldP l).1.a, (toldP l).1.b, (toldP l).1.L, (toldP l).1.K, (toldP l).2) := if_pos (okBytes_in hb hl)
theorem enc_len {n0 n1 n2 n3 n4 n5 n6 n7 n8 : Int} {L : List S93} (hn : ∀ x ∈ [n0, n1, n2, n3, n4, n5, n6, n7, n8], In64 x) (hL : ∀ y ∈ L, L3 y) (hl : L.length ≤ 20) : (encP [n0, n1, n2, n3, n4, n5, n6, n7, n8] L).1.length ≤ 100000 := by
  unfold encP
  split
  · have h0 := putN_len (s := (false, [])) (hn n0 (by simp)).2
    refine (fieldsW_len (k := n0) (s := putN (false, []) n0) hn (fun y hy => ⟨(hL y hy).1.2, (hL y hy).2.1.2, (hL y hy).2.2.2⟩) hl ?_).1
    simp only [List.length_nil] at h0
    omega
  · simp
theorem ans_len {r : Rep} (hr : r.In) (hl : r.L.length ≤ 20) (hk : r.K.length ≤ 20) : (ansP r).1.length ≤ 100000 := by
  unfold ansP
  split
  · simp
  · exact ansS_len ⟨hr.c, hr.a, hr.b, fun y hy => ⟨(hr.L y hy).1.2, (hr.L y hy).2.1.2, (hr.L y hy).2.2.2⟩, fun y hy => ⟨(hr.K y hy).1.2, (hr.K y hy).2.1.2, (hr.K y hy).2.2.1.2, (hr.K y hy).2.2.2.1, (hr.K y hy).2.2.2.2⟩, hl, hk⟩
theorem apart_j3 {k : Nat} (hk : 100000 < k) {c a b d e f : Int} {L M : List S93} {K J : List S76} (hr : (⟨c, a, b, L, K⟩ : Rep).In) (hs : (⟨d, e, f, M, J⟩ : Rep).In) (hl : L.length ≤ 20) (hm : M.length ≤ 20) (hK : K.length ≤ 20) (hJ : J.length ≤ 20) (z : Bool) (hz : z = false → (ansP ⟨c, a, b, L, K⟩).2 = 0 ∧ (ansP ⟨d, e, f, M, J⟩).2 = 0) :
    quartermasterlaw21_ReqApart.j3 (k + 1) (ansP ⟨c, a, b, L, K⟩).1 (ansP ⟨d, e, f, M, J⟩).1 z c a b L K d e f M J = some true := by
  rw [quartermasterlaw21_ReqApart.j3]
  cases z with
  | true => rfl
  | false =>
    obtain ⟨h1, h2⟩ := hz rfl
    have hlen := ans_len hr hl hK
    rw [if_neg (by decide), bytes_f (by omega) (by omega), Option.bind_some]
    obtain ⟨r, e1, hi⟩ := reps_f (k := k) c a b d e f L M K J (by omega) (by omega) (by omega) (by omega)
    rw [e1, Option.bind_some]
    congr 1
    rw [beq_iff_eq, Bool.eq_iff_iff, beq_iff_eq, hi]
    constructor
    · intro he
      have t1 := told_ans hr h1
      rw [he, told_ans hs h2] at t1
      exact (Prod.mk.inj t1).1.symm
    · intro he; rw [he]
theorem apart_j2 {k : Nat} (hk : 100000 < k) {c a b d e f : Int} {L M : List S93} {K J : List S76} (hr : (⟨c, a, b, L, K⟩ : Rep).In) (hs : (⟨d, e, f, M, J⟩ : Rep).In) (hl : L.length ≤ 20) (hm : M.length ≤ 20) (hK : K.length ≤ 20) (hJ : J.length ≤ 20) :
    quartermasterlaw21_ReqApart.j2 (k + 2) c a b L K d e f M J = some true := by
  rw [quartermasterlaw21_ReqApart.j2, ans_f hr hl hK, Option.bind_some, ans_f hs hm hJ, Option.bind_some]
  by_cases h1 : (ansP ⟨c, a, b, L, K⟩).2 = 0
  · rw [if_pos h1]
    exact apart_j3 hk hr hs hl hm hK hJ _ (fun hz => ⟨h1, by simpa using hz⟩)
  · rw [if_neg h1]
    exact apart_j3 hk hr hs hl hm hK hJ true (fun hz => by cases hz)
theorem apart_j1 {k : Nat} (hk : 100020 < k) {n0 n1 n2 n3 n4 n5 n6 n7 n8 m0 m1 m2 m3 m4 m5 m6 m7 m8 : Int} {L M : List S93} (hn : ∀ x ∈ [n0, n1, n2, n3, n4, n5, n6, n7, n8], In64 x) (hm : ∀ x ∈ [m0, m1, m2, m3, m4, m5, m6, m7, m8], In64 x) (hL : ∀ y ∈ L, L3 y) (hM : ∀ y ∈ M, L3 y) (hl : L.length ≤ 20) (hl2 : M.length ≤ 20) (z : Bool) (hz : z = true → (encP [n0, n1, n2, n3, n4, n5, n6, n7, n8] L).2 = 0 ∧ (encP [m0, m1, m2, m3, m4, m5, m6, m7, m8] M).2 = 0) {c a b d e f : Int} {L1 M1 : List S93} {K J : List S76} (hj : quartermasterlaw21_ReqApart.j2 k c a b L1 K d e f M1 J = some true) :
    quartermasterlaw21_ReqApart.j1 (k + 1) (encP [n0, n1, n2, n3, n4, n5, n6, n7, n8] L).1 (encP [m0, m1, m2, m3, m4, m5, m6, m7, m8] M).1 z n0 n1 n2 n3 n4 n5 n6 n7 n8 L m0 m1 m2 m3 m4 m5 m6 m7 m8 M c a b L1 K d e f M1 J = some true := by
  rw [quartermasterlaw21_ReqApart.j1]
  cases z with
  | false => exact hj
  | true =>
    obtain ⟨h1, h2⟩ := hz rfl
    have hlen := enc_len hn hL hl
    rw [if_pos rfl, bytes_f (by omega) (by omega), Option.bind_some]
    obtain ⟨d0, rfl⟩ : ∃ d, k = d + 20 := ⟨k - 20, by omega⟩
    obtain ⟨r, e1, hi⟩ := reqs_iff (k := d0) (L := L) (M := M) (ns := [n0, n1, n2, n3, n4, n5, n6, n7, n8]) (ms := [m0, m1, m2, m3, m4, m5, m6, m7, m8]) rfl rfl (by omega) (by omega)
    rw [e1, Option.bind_some, if_neg ?_]
    · exact hj
    · have : ((encP [n0, n1, n2, n3, n4, n5, n6, n7, n8] L).1 == (encP [m0, m1, m2, m3, m4, m5, m6, m7, m8] M).1) = r := by
        rw [Bool.eq_iff_iff, beq_iff_eq, hi]
        constructor
        · intro he
          have t1 := dec_enc hn hL (by omega) h1
          rw [he, dec_enc hm hM (by omega) h2] at t1
          have t2 := Prod.mk.inj (Prod.mk.inj t1).1
          exact ⟨t2.1.symm, t2.2.symm⟩
        · rintro ⟨he, he2⟩; rw [he, he2]
      rw [this]; simp
theorem ReqApart : quartermasterlaw21_ReqApart.Pure := by
  intro n0 n1 n2 n3 n4 n5 n6 n7 n8 L m0 m1 m2 m3 m4 m5 m6 m7 m8 M c a b L1 K d e f M1 J hw0 hw1 hw2 hw3 hw4 hw5 hw6 hw7 hw8 _ hq hv0 hv1 hv2 hv3 hv4 hv5 hv6 hv7 hv8 _ hqm h1 h2 h3 _ hq1 _ hq2 h4 h5 h6 _ hq3 _ hq4
  have hn : ∀ x ∈ [n0, n1, n2, n3, n4, n5, n6, n7, n8], In64 x := by
    intro x hx
    simp only [List.mem_cons, List.not_mem_nil, or_false] at hx
    rcases hx with rfl | rfl | rfl | rfl | rfl | rfl | rfl | rfl | rfl <;> exact wf64 (by assumption)
  have hm : ∀ x ∈ [m0, m1, m2, m3, m4, m5, m6, m7, m8], In64 x := by
    intro x hx
    simp only [List.mem_cons, List.not_mem_nil, or_false] at hx
    rcases hx with rfl | rfl | rfl | rfl | rfl | rfl | rfl | rfl | rfl <;> exact wf64 (by assumption)
  have hL := l3_of hq
  have hM := l3_of hqm
  refine ⟨100100, ?_⟩
  obtain ⟨k, hk⟩ : ∃ k, k = 100097 := ⟨_, rfl⟩
  rw [show 100100 = k + 3 by omega]
  unfold quartermasterlaw21_ReqApart.f
  rw [awake_f (by omega), Option.bind_some, if_pos rfl]
  have hyes : quartermasterlaw21_ReqApart.j0 (k + 3) true true n0 n1 n2 n3 n4 n5 n6 n7 n8 L m0 m1 m2 m3 m4 m5 m6 m7 m8 M c a b L1 K d e f M1 J = some true := by rw [quartermasterlaw21_ReqApart.j0]; rfl
  by_cases hl : (L.length : Int) > 20
  · rw [if_pos hl]; exact hyes
  rw [if_neg hl]
  by_cases hl2 : (M.length : Int) > 20
  · rw [if_pos hl2]; exact hyes
  rw [if_neg hl2]
  by_cases hl3 : (L1.length : Int) > 20
  · rw [if_pos hl3]; exact hyes
  rw [if_neg hl3]
  by_cases hl4 : (K.length : Int) > 20
  · rw [if_pos hl4]; exact hyes
  rw [if_neg hl4]
  by_cases hl5 : (M1.length : Int) > 20
  · rw [if_pos hl5]; exact hyes
  rw [if_neg hl5]
  by_cases hl6 : (J.length : Int) > 20
  · rw [decide_eq_true hl6]; exact hyes
  rw [decide_eq_false hl6]
  have hr : (⟨c, a, b, L1, K⟩ : Rep).In := ⟨wf64 h1, wf64 h2, wf64 h3, l3_of hq1, l4_of hq2, by simp only; omega, by simp only; omega⟩
  have hs : (⟨d, e, f, M1, J⟩ : Rep).In := ⟨wf64 h4, wf64 h5, wf64 h6, l3_of hq3, l4_of hq4, by simp only; omega, by simp only; omega⟩
  have hj2 := apart_j2 (k := k - 1) (by omega) hr hs (by omega) (by omega) (by omega) (by omega)
  rw [show k - 1 + 2 = k + 1 by omega] at hj2
  rw [quartermasterlaw21_ReqApart.j0, if_neg (by decide), enc_f hn hL (by omega), Option.bind_some, enc_f hm hM (by omega), Option.bind_some]
  by_cases h0 : (encP [n0, n1, n2, n3, n4, n5, n6, n7, n8] L).2 = 0
  · rw [if_pos h0]
    exact apart_j1 (k := k + 1) (by omega) hn hm hL hM (by omega) (by omega) _ (fun hz => ⟨h0, by simpa using hz⟩) hj2
  · rw [if_neg h0]
    exact apart_j1 (k := k + 1) (by omega) hn hm hL hM (by omega) (by omega) false (fun hz => by cases hz) hj2
end Go.Proofs.Ytgdelfckhcgnhaa.Pure
