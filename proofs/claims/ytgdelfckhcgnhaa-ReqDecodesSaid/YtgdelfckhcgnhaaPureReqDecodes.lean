/- The plain law of ReqDecodes. No conditions beside those that each lemma states. -/
import Derived.Test.YtgdelfckhcgnhaaPv1
import Derived.Test.YtgdelfckhcgnhaaReqSame
import Derived.Test.YtgdelfckhcgnhaaReqRX
namespace Go.Proofs.Ytgdelfckhcgnhaa.Pure
open Go Go.RowKit Go.Proofs.Ytgdelfckhcgnhaa.Pa Go.Proofs.Ytgdelfckhcgnhaa.Pv Go.Proofs.YtgdelfckhcgnhaaW.PrintWords Go.Proofs.YtgdelfckhcgnhaaW.PrintLast Go.Proofs.Ytgdelfckhcgnhaa.Code Go.Proofs.Ytgdelfckhcgnhaa.Ext
set_option linter.unusedVariables false

theorem awake_f {k : Nat} (hk : 40 ≤ k) : quartermasterlaw21_awake.f k = some true := by
  obtain ⟨d, rfl⟩ : ∃ d, k = 40 + d := ⟨k - 40, by omega⟩
  clear hk
  induction d with
  | zero => decide +kernel
  | succ d ih => exact quartermasterlaw21_awake.mono _ _ ih
theorem wf8 {l : List Int} (h : ∀ y ∈ l, (Lit.int .u8 y).wf = true) : Bytes l := fun y hy => by
  have := h y hy
  simp only [Lit.wf, Bool.and_eq_true, decide_eq_true_eq] at this
  have h1 : IntKind.u8.min = 0 := by decide
  have h2 : IntKind.u8.max = 255 := by decide
  rw [h1, h2] at this
  exact ⟨this.1, by omega⟩
theorem okBytes_in {l : List Int} (hb : Bytes l) (hl : l.length ≤ 140737488351232) : okBytes l = true := by
  simp only [okBytes, Bool.and_eq_true, decide_eq_true_eq]
  refine ⟨?_, hl⟩
  rw [List.all_eq_true]
  intro x hx
  simp only [Bool.and_eq_true, decide_eq_true_eq]
  exact hb x hx
theorem dec_f {l : List Int} (hb : Bytes l) (hl : l.length ≤ 140737488351232) : req_Decode.f l = some (tuple9 (decP l).1.1 (decP l).1.2 (decP l).2) := if_pos (okBytes_in hb hl)
theorem told_f {l : List Int} (hb : Bytes l) (hl : l.length ≤ 140737488351232) : req_Told.f l = some ((toldP l).1.c, (toldP l).1.a, (toldP l).1.b, (toldP l).1.L, (toldP l).1.K, (toldP l).2) := if_pos (okBytes_in hb hl)
theorem told_len {l : List Int} (hb : Bytes l) : (toldP l).1.L.length ≤ 4 ∧ (toldP l).1.K.length ≤ 8 := by
  unfold toldP
  split
  · have h := replyR_fits (s := (false, l)) hb
    exact ⟨h.2.1, h.2.2⟩
  · exact ⟨by simp, by simp⟩
theorem ReqDecodes : quartermasterlaw21_ReqDecodes.Pure := by
  intro l _ hw
  have hb := wf8 hw
  refine ⟨1003, ?_⟩
  obtain ⟨k, hk⟩ : ∃ k, k = 1002 := ⟨_, rfl⟩
  rw [show 1003 = k + 1 by omega]
  unfold quartermasterlaw21_ReqDecodes.f
  rw [awake_f (by omega), Option.bind_some, if_pos rfl]
  by_cases hl : (l.length : Int) > 500
  · rw [decide_eq_true hl, quartermasterlaw21_ReqDecodes.j0]; rfl
  rw [decide_eq_false hl, quartermasterlaw21_ReqDecodes.j0, if_neg (by decide)]
  have hd := dec_f hb (by omega)
  have ht := told_f hb (by omega)
  have hd2 : quartermasterref21_Decode.f l = req_Decode.f l := rfl
  have ht2 : quartermasterref21_Told.f l = req_Told.f l := rfl
  rw [hd2, ht2, hd, ht]
  obtain ⟨n0, n1, n2, n3, n4, n5, n6, n7, n8, hs, h64, h3, h4⟩ := dec_shape hb
  simp only [tuple9, hs, Option.bind_some, List.getD_cons_zero, List.getD_cons_succ]
  obtain ⟨r, e, hi⟩ := reqs_iff (k := k - 20) (L := (decP l).1.2) (M := (decP l).1.2) (ns := [n0, n1, n2, n3, n4, n5, n6, n7, n8]) (ms := [n0, n1, n2, n3, n4, n5, n6, n7, n8]) rfl rfl (by omega) (by omega)
  have hin := told_len hb
  obtain ⟨s, f, hj⟩ := reps_f (k := k) (toldP l).1.c (toldP l).1.a (toldP l).1.b (toldP l).1.c (toldP l).1.a (toldP l).1.b (toldP l).1.L (toldP l).1.L (toldP l).1.K (toldP l).1.K (by omega) (by omega) (by omega) (by omega)
  rw [show k = k - 20 + 20 by omega, e, Option.bind_some, show k - 20 + 20 = k by omega, f, Option.bind_some, hi.2 ⟨rfl, rfl⟩, hj.2 rfl, if_pos rfl, if_pos rfl]
  simp
end Go.Proofs.Ytgdelfckhcgnhaa.Pure
