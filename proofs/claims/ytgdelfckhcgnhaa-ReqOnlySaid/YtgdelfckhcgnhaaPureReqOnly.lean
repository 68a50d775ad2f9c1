/- The plain law of ReqOnly. No conditions beside those that each lemma states. -/
import Derived.Test.YtgdelfckhcgnhaaPy1
import Derived.Test.YtgdelfckhcgnhaaReqSame
namespace Go.Proofs.Ytgdelfckhcgnhaa.Pure
open Go Go.RowKit Go.Proofs.Ytgdelfckhcgnhaa.Pa Go.Proofs.Ytgdelfckhcgnhaa.Py Go.Proofs.YtgdelfckhcgnhaaW.PrintWords Go.Proofs.YtgdelfckhcgnhaaW.PrintLast Go.Proofs.Ytgdelfckhcgnhaa.Code Go.Proofs.Ytgdelfckhcgnhaa.Ext
set_option linter.unusedVariables false

theorem awake_f {k : Nat} (hk : 40 ≤ k) : quartermasterlaw21_awake.f k = some true := by
  obtain ⟨d, rfl⟩ : ∃ d, k = 40 + d := ⟨k - 40, by omega⟩
  clear hk
  induction d with
  | zero => decide +kernel
  | succ d ih => exact quartermasterlaw21_awake.mono _ _ ih
theorem wf64 {a : Int} (h : (Lit.int .i64 a).wf = true) : In64 a := by
  simp only [Lit.wf, Bool.and_eq_true, decide_eq_true_eq] at h
  have h1 : IntKind.i64.min = -9223372036854775808 := by decide
  have h2 : IntKind.i64.max = 9223372036854775807 := by decide
  rw [h1, h2] at h
  exact ⟨h.1, by omega⟩
theorem wf8 {l : List Int} (h : ∀ y ∈ l, (Lit.int .u8 y).wf = true) : Bytes l := fun y hy => by
  have := h y hy
  simp only [Lit.wf, Bool.and_eq_true, decide_eq_true_eq] at this
  have h1 : IntKind.u8.min = 0 := by decide
  have h2 : IntKind.u8.max = 255 := by decide
  rw [h1, h2] at this
  exact ⟨this.1, by omega⟩
theorem l3_of {L : List S93} (h : ∀ y ∈ L, qT93 y) : ∀ y ∈ L, L3 y := fun y hy => by
  have := h y hy
  exact ⟨wf64 this.1, wf64 this.2.1, wf64 this.2.2⟩
theorem l4_of {L : List S76} (h : ∀ y ∈ L, qT76 y) : ∀ y ∈ L, L4 y := fun y hy => by
  have := h y hy
  exact ⟨wf64 this.1, wf64 this.2.1, wf64 this.2.2.1, wf64 this.2.2.2⟩
theorem lim3B_of {L : List S93} (h : ∀ y ∈ L, L3 y) : L.all lim3B = true := by
  rw [List.all_eq_true]
  intro y hy
  have := h y hy
  simp only [lim3B, Bool.and_eq_true, in64B_iff]
  exact ⟨⟨this.1, this.2.1⟩, this.2.2⟩
theorem lim4B_of {L : List S76} (h : ∀ y ∈ L, L4 y) : L.all lim4B = true := by
  rw [List.all_eq_true]
  intro y hy
  have := h y hy
  simp only [lim4B, Bool.and_eq_true, in64B_iff]
  exact ⟨⟨⟨this.1, this.2.1⟩, this.2.2.1⟩, this.2.2.2⟩
theorem enc_f {n0 n1 n2 n3 n4 n5 n6 n7 n8 : Int} {L : List S93} (hn : ∀ x ∈ [n0, n1, n2, n3, n4, n5, n6, n7, n8], In64 x) (hL : ∀ y ∈ L, L3 y) (hl : L.length ≤ 20) : req_Encode.f n0 n1 n2 n3 n4 n5 n6 n7 n8 L = some (encP [n0, n1, n2, n3, n4, n5, n6, n7, n8] L) := by
  unfold req_Encode.f
  refine if_pos ?_
  simp only [okReq, Bool.and_eq_true, decide_eq_true_eq]
  refine ⟨?_, lim3B_of hL, hl⟩
  rw [List.all_eq_true]
  exact fun x hx => (in64B_iff x).2 (hn x hx)
theorem ans_f {c a b : Int} {L : List S93} {K : List S76} (hr : (⟨c, a, b, L, K⟩ : Rep).In) (hl : L.length ≤ 20) (hk : K.length ≤ 20) : req_Answer.f c a b L K = some (ansP ⟨c, a, b, L, K⟩) := by
  unfold req_Answer.f
  refine if_pos ?_
  simp only [okRep, Bool.and_eq_true, decide_eq_true_eq]
  refine ⟨⟨?_, lim3B_of hr.L⟩, lim4B_of hr.K, hl, hk⟩
  rw [List.all_eq_true]
  intro x hx
  rw [in64B_iff]
  simp only [List.mem_cons, List.not_mem_nil, or_false] at hx
  rcases hx with rfl | rfl | rfl
  · exact hr.c
  · exact hr.a
  · exact hr.b
theorem okBytes_in {l : List Int} (hb : Bytes l) (hl : l.length ≤ 140737488351232) : okBytes l = true := by
  simp only [okBytes, Bool.and_eq_true, decide_eq_true_eq]
  refine ⟨?_, hl⟩
  rw [List.all_eq_true]
  intro x hx
  simp only [Bool.and_eq_true, decide_eq_true_eq]
  exact hb x hx
theorem dec_f {l : List Int} (hb : Bytes l) (hl : l.length ≤ 140737488351232) : req_Decode.f l = some (tuple9 (decP l).1.1 (decP l).1.2 (decP l).2) := if_pos (okBytes_in hb hl)
theorem told_f {l : List Int} (hb : Bytes l) (hl : l.length ≤ 140737488351232) : req_Told.f l = some ((toldP l).1.c, (toldP l).1.a, (toldP l).1.b, (toldP l).1.L, (toldP l).1.K, (toldP l).2) := if_pos (okBytes_in hb hl)
theorem enc_len {n0 n1 n2 n3 n4 n5 n6 n7 n8 : Int} {L : List S93} (hn : ∀ x ∈ [n0, n1, n2, n3, n4, n5, n6, n7, n8], In64 x) (hL : ∀ y ∈ L, L3 y) (hl : L.length ≤ 20) : (encP [n0, n1, n2, n3, n4, n5, n6, n7, n8] L).1.length ≤ 100000 := by
  unfold encP
  split
  · have h0 := putN_len (s := (false, [])) (hn n0 (by simp)).2
    refine (fieldsW_len (k := n0) (s := putN (false, []) n0) hn (fun y hy => ⟨(hL y hy).1.2, (hL y hy).2.1.2, (hL y hy).2.2.2⟩) hl ?_).1
    simp only [List.length_nil] at h0
    omega
  · simp
theorem ans_len {r : Rep} (hr : r.In) (hl : r.L.length ≤ 20) (hk : r.K.length ≤ 20) : (ansP r).1.length ≤ 100000 := by
  unfold ansP
  split
  · simp
  · exact ansS_len ⟨hr.c, hr.a, hr.b, fun y hy => ⟨(hr.L y hy).1.2, (hr.L y hy).2.1.2, (hr.L y hy).2.2.2⟩, fun y hy => ⟨(hr.K y hy).1.2, (hr.K y hy).2.1.2, (hr.K y hy).2.2.1.2, (hr.K y hy).2.2.2.1, (hr.K y hy).2.2.2.2⟩, hl, hk⟩
theorem may_f {n0 n1 n2 n3 n4 n5 n6 n7 n8 : Int} {L : List S93} (hn : ∀ x ∈ [n0, n1, n2, n3, n4, n5, n6, n7, n8], In64 x) (hL : ∀ y ∈ L, L3 y) (hl : L.length ≤ 20) : req_May.f n0 n1 n2 n3 n4 n5 n6 n7 n8 L = some ((encP [n0, n1, n2, n3, n4, n5, n6, n7, n8] L).2 == 0) := by
  unfold req_May.f
  rw [enc_f hn hL hl]; rfl
theorem only_tail {l m : List Int} (hb : Bytes l) (hbm : Bytes m) (hl : l.length ≤ 500) (hm : m.length ≤ 100) (h : (decP l).2 = 0) : (if (m.length : Int) = 0 then (some true) else (if ([] : List Int).length + l.length < 140737488355328 then ((some (([] : List Int) ++ l : List Int)).bind fun y184 => (if y184.length + m.length < 140737488355328 then ((req_Decode.f (y184 ++ m)).bind fun bt190 => (some (bt190.2.2.2.2.2.2.2.2.2.2 == 7))) else (none))) else (none))) = some true := by
  by_cases h0 : (m.length : Int) = 0
  · rw [if_pos h0]
  · rw [if_neg h0, if_pos (by simp only [List.length_nil]; omega), Option.bind_some, List.nil_append, if_pos (by omega), dec_f (hb.append hbm) (by rw [List.length_append]; omega), dec_more hb (fun e => h0 (by rw [e]; rfl)) hbm h]
    rfl
theorem only_j2 {k : Nat} {l m : List Int} {n : Int} (hb : Bytes l) (hbm : Bytes m) (hl : l.length ≤ 500) (hm : m.length ≤ 100) (h : (decP l).2 = 0) (z : Bool) (hz : z = true → 0 ≤ n ∧ n < l.length) : quartermasterlaw21_ReqOnly.j2 (k + 1) l n m z = some true := by
  rw [quartermasterlaw21_ReqOnly.j2]
  have ht := only_tail hb hbm hl hm h
  cases z with
  | false => rw [if_neg (by decide)]; exact ht
  | true =>
    obtain ⟨h1, h2⟩ := hz rfl
    have hd : Bytes (l.take n.toNat) := fun x hx => hb x (List.mem_of_mem_take hx)
    rw [if_pos rfl, if_pos h1, if_pos (by omega), dec_f hd (by rw [List.length_take]; omega)]
    simp only [tuple9, Option.bind_some]
    rw [if_neg (dec_less hb (by omega) h)]
    exact ht
theorem ReqOnly : quartermasterlaw21_ReqOnly.Pure := by
  intro l n m _ hw _ _ hwm
  have hb := wf8 hw
  have hbm := wf8 hwm
  refine ⟨1003, ?_⟩
  obtain ⟨k, hk⟩ : ∃ k, k = 1000 := ⟨_, rfl⟩
  rw [show 1003 = k + 3 by omega]
  unfold quartermasterlaw21_ReqOnly.f
  rw [awake_f (by omega), Option.bind_some, if_pos rfl]
  have hyes : quartermasterlaw21_ReqOnly.j0 (k + 3) l n m true true = some true := by rw [quartermasterlaw21_ReqOnly.j0]; rfl
  by_cases hl : (l.length : Int) > 500
  · rw [if_pos hl]; exact hyes
  rw [if_neg hl]
  by_cases hm : (m.length : Int) > 100
  · rw [decide_eq_true hm]; exact hyes
  rw [decide_eq_false hm]
  obtain ⟨n0, n1, n2, n3, n4, n5, n6, n7, n8, hs, h64, h3, h4⟩ := dec_shape hb
  rw [quartermasterlaw21_ReqOnly.j0, if_neg (by decide), dec_f hb (by omega)]
  rcases dec_two l with h0 | ⟨h7, hz⟩
  · obtain ⟨he, hel⟩ := enc_dec hb h0
    rw [hs] at he hel h64
    simp only [tuple9, hs, Option.bind_some, List.getD_cons_zero, List.getD_cons_succ]
    rw [if_pos h0, enc_f h64 h3 (by omega), Option.bind_some, hel, bytes_f (by omega) (by omega), Option.bind_some, he, if_pos rfl, if_pos (by simp), may_f h64 h3 (by omega), Option.bind_some, he]
    rw [show k + 2 = (k + 1) + 1 from rfl, quartermasterlaw21_ReqOnly.j1, if_neg (by decide)]
    by_cases hn : n ≥ 0
    · rw [if_pos hn]
      exact only_j2 (k := k) hb hbm (by omega) (by omega) h0 _ (fun hz => ⟨hn, of_decide_eq_true hz⟩)
    · rw [if_neg hn]
      exact only_j2 (k := k) hb hbm (by omega) (by omega) h0 _ (fun hz => by cases hz)
  · rw [hz, h7]
    simp only [tuple9, Option.bind_some, List.getD_cons_zero, List.getD_cons_succ]
    obtain ⟨r, e, hi⟩ := reqs_iff (k := k - 18) (L := []) (M := []) (ns := [0, 0, 0, 0, 0, 0, 0, 0, 0]) (ms := [0, 0, 0, 0, 0, 0, 0, 0, 0]) rfl rfl (by simp) (by simp)
    rw [if_neg (by decide), show k + 2 = k - 18 + 20 by omega, e, Option.bind_some, hi.2 ⟨rfl, rfl⟩]
    rfl
end Go.Proofs.Ytgdelfckhcgnhaa.Pure
