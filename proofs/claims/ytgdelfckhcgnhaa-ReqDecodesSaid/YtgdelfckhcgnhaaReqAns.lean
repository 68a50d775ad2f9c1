/- req: what Answer and Told tell. No conditions beside those that each contract states. -/
import Derived.Test.YtgdelfckhcgnhaaReqRep
namespace Go.Proofs.Ytgdelfckhcgnhaa.Code
open Go.RowKit Go.Proofs.Ytgdelfckhcgnhaa.Pa Go.Proofs.YtgdelfckhcgnhaaW.PrintWords Go.Proofs.YtgdelfckhcgnhaaW.PrintLast Go.Proofs.YtgdelfckhcgnhaaW.PrintMore
set_option linter.unusedVariables false
set_option linter.unusedSimpArgs false

theorem Sit.freshB {w0 W : World} {T : List Thing} (h : Sit w0 W T) (ob : Bool) : Sit w0 (W.alloc (.cells #[.slice none 0 0, .bool ob] 66)) (.out ob W.heap.size [] :: T) :=
  h.add (F := fun k => k = W.heap.size) ((Below.refl _ _).alloc (Nat.le_refl _) _) ⟨none, 0, World.alloc_heap_new W _, Kd.R_nil _ _ _ _ _, rfl, fun k hk => by subst hk; simp⟩ (fun k hk => by subst hk; simp)
/-- What may be told. -/
structure Rep.Ok (r : Rep) : Prop where
  c : In64 r.c
  a : In64 r.a
  b : In64 r.b
  L : ∀ y ∈ r.L, Lim3 y
  K : ∀ y ∈ r.K, Lim4 y
  l : r.L.length ≤ 20
  k : r.K.length ≤ 20
/-- What Answer tells. -/
def ansS (r : Rep) : (Bool × List Int) × Rep := Do.w.reply (decide (10 ≤ r.c), []) r
def ansP (r : Rep) : List Int × Int := if (ansS r).1.1 then ([], 1) else ((ansS r).1.2, 0)
theorem ansS_len {r : Rep} (h : r.Ok) : (ansS r).1.2.length ≤ 100000 := by
  have h1 := putN_len (s := (decide (10 ≤ r.c), [])) h.c.2
  have h2 := putI_len (s := (putN (decide (10 ≤ r.c), []) r.c)) h.a.1 h.a.2
  have h3 := putI_len (s := (putI (putN (decide (10 ≤ r.c), []) r.c) r.a)) h.b.1 h.b.2
  have h4 := putLines_len (s := putI (putI (putN (decide (10 ≤ r.c), []) r.c) r.a) r.b) h.L (by have := h.l; omega)
  have h5 := putEntries_len (s := putLines (putI (putI (putN (decide (10 ≤ r.c), []) r.c) r.a) r.b) r.L) h.K (by have := h.k; omega)
  have := h.l
  have := h.k
  show (putEntries (putLines (putI (putI (putN (decide (10 ≤ r.c), []) r.c) r.a) r.b) r.L) r.K).2.length ≤ _
  simp only [List.length_nil] at h1
  omega
theorem replyW {w0 W : World} {T : List Thing} {q rb c d : Nat} {s : Bool × List Int} {r : Rep} {A B : Option Addr} (h : Sit w0 W (.out s.1 q s.2 :: .blk rb (.cells (cs38 r.c r.a r.b (.slice A r.L.length c) (.slice B r.K.length d)) 38 (0, 0)) :: T)) (hC : Kd.C k93 w0 A r.L.length r.L) (hc : r.L.length ≤ c) (hD : Kd.C k76 w0 B r.K.length r.K) (hd : r.K.length ≤ d) (hr : r.Ok) (hs : s.2.length ≤ 100000) :
    Calls Try.prog 34 #[.pointer (some ⟨rb, 0, none⟩), .agg (wayC 29 52 53 54 q)] W fun e' w' => e' = .returned (.tuple #[]) ∧ ∃ T', Sit w0 w' (.out (Do.w.reply s r).1.1 q (Do.w.reply s r).1.2 :: T') := by
  refine (reply_any (Way.w w0 q) (s := s) h hr.c hr.a hr.b (show s.2.length + 1000 * 5 ≤ 1000000 by omega) ⟨A, c, rfl, hC, hc, hr.L, hr.l⟩ ⟨B, d, rfl, hD, hd, hr.K, hr.k⟩).mono ?_
  rintro e' w' ⟨he, v', u', hs⟩
  exact ⟨he, _, hs⟩
theorem replyR {w0 W : World} {T : List Thing} {q g rb : Nat} {s : Bool × List Int} (h : Sit w0 W (.inn g s.2 :: .blk q (rdr g s.1) :: .blk rb (.cells (cs38 0 0 0 (.slice none 0 0) (.slice none 0 0)) 38 (0, 0)) :: T)) :
    Calls Try.prog 34 #[.pointer (some ⟨rb, 0, none⟩), .agg (wayC 23 48 49 50 q)] W fun e' w' => e' = .returned (.tuple #[]) ∧ ∃ v' u', Sit w0 w' (.inn g (Do.r.reply s ⟨0, 0, 0, [], []⟩).1.2 :: .blk q (rdr g (Do.r.reply s ⟨0, 0, 0, [], []⟩).1.1) :: .blk rb (.cells (cs38 (Do.r.reply s ⟨0, 0, 0, [], []⟩).2.c (Do.r.reply s ⟨0, 0, 0, [], []⟩).2.a (Do.r.reply s ⟨0, 0, 0, [], []⟩).2.b v' u') 38 (0, 0)) :: row76 u' (Do.r.reply s ⟨0, 0, 0, [], []⟩).2.K :: row93 v' (Do.r.reply s ⟨0, 0, 0, [], []⟩).2.L :: T) :=
  reply_any (Way.r w0 q g) (s := s) (r := ⟨0, 0, 0, [], []⟩) h trivial trivial trivial trivial rfl rfl
theorem replyR_fits {s : Bool × List Int} (h : RB s) : (Do.r.reply s ⟨0, 0, 0, [], []⟩).2.Ok ∧ (Do.r.reply s ⟨0, 0, 0, [], []⟩).2.L.length ≤ 4 ∧ (Do.r.reply s ⟨0, 0, 0, [], []⟩).2.K.length ≤ 8 := by
  have h1 := num_fits h
  have h2 := int_fits h.getN
  have h3 := int_fits h.getN.getI
  have h4 := lines_fits h.getN.getI.getI
  have h5 := entries_fits h4.1
  refine ⟨⟨h1.1.2, h2.1, h3.1, h4.2.1, h5.2.1, ?_, ?_⟩, h4.2.2, h5.2.2⟩
  · show (getLines (getI (getI (getN s)))).2.length ≤ 20
    have := h4.2.2; omega
  · show (getEntrys (getLines (getI (getI (getN s)))).1).2.length ≤ 20
    have := h5.2.2; omega

set_option maxRecDepth 100000 in
set_option maxHeartbeats 16000000 in
theorem answer_any (r : Rep) (A B : Option Addr) (c d : Nat) (W : World) (hC : Kd.C k93 W A r.L.length r.L) (hc : r.L.length ≤ c) (hD : Kd.C k76 W B r.K.length r.K) (hd : r.K.length ≤ d) (hr : r.Ok) :
    Calls Try.prog 14 #[.agg #[.int .i64 r.c, .int .i64 r.a, .int .i64 r.b, .slice A r.L.length c, .slice B r.K.length d]] W fun e w' => ∃ v0_ : Value, e = .returned (.tuple #[v0_, .int .i64 (ansP r).2]) ∧ Kd.R (Kd.int .u8) 5 w' W.heap.size (fun _ => True) v0_ (ansP r).1 ∧ Below W.heap.size W w' := by
  obtain ⟨ob, hob⟩ : ∃ ob, ob = decide (10 ≤ r.c) := ⟨_, rfl⟩
  have hA := (Sit.refl W).alloc #[.int .i64 r.c, .int .i64 r.a, .int .i64 r.b, .slice A r.L.length c, .slice B r.K.length d] 38
  obtain ⟨W1, hW1⟩ : ∃ W1, W1 = W.alloc (.cells #[.int .i64 r.c, .int .i64 r.a, .int .i64 r.b, .slice A r.L.length c, .slice B r.K.length d] 38) := ⟨_, rfl⟩
  have e1 : W1.heap.size = W.heap.size + 1 := by rw [hW1]; simp
  rw [← hW1] at hA
  have hB := hA.freshB ob
  rw [e1] at hB
  rw [hW1] at hB
  have P2 := fun (W' : World) (h' : Sit W W' (.out (ob, ([] : List Int)).1 (W.heap.size + 1) (ob, ([] : List Int)).2 :: .blk W.heap.size (.cells (cs38 r.c r.a r.b (.slice A r.L.length c) (.slice B r.K.length d)) 38 (0, 0)) :: [])) => replyW (s := (ob, [])) h' hC hc hD hd hr (by simp)
  obtain ⟨S, hS⟩ : ∃ S, S = (ansS r).1 := ⟨_, rfl⟩
  have hl := ansS_len hr
  have hS2 : (Do.w.reply (ob, []) r).1 = S := by rw [hS, hob]; rfl
  have hE : ansP r = if S.1 then ([], 1) else (S.2, 0) := by rw [hS]; rfl
  rw [hE]
  rw [← hS] at hl
  simp only [hS2] at P2
  obtain ⟨so, bs⟩ := S
  simp only at hl P2 ⊢
  obtain ⟨rc, ra, rbb, rL, rK⟩ := r
  simp only at hB P2 hob hC hc hD hd ⊢
  have HB : Aside0 (Sit W ((W.alloc (.cells #[.int .i64 rc, .int .i64 ra, .int .i64 rbb, .slice A rL.length c, .slice B rK.length d] 38)).alloc (.cells #[.slice none 0 0, .bool ob] 66)) (.out ob (W.heap.size + 1) [] :: .blk W.heap.size (.cells (cs38 rc ra rbb (.slice A rL.length c) (.slice B rK.length d)) 38 (0, 0)) :: [])) := ⟨hB⟩
  have PN2 := Aside0.mk P2
  have HL := Aside0.mk hl
  have hob2 : decide (10 ≤ rc) = ob := hob.symm
  clear hB P2 hl hS hS2 hE hr hA hW1 e1 hC hc hD hd hob
  cases ob <;> cases so
  all_goals
    go_enter Try.func14, Try.ntmps14
    go_wp2_with (first | (go_at_call 30; (with_reducible refine (wway _ HB.out).mono ?_); rintro e' w1 ⟨rfl, hs⟩; have H1 := Aside0.mk hs; clear hs) | (go_at_call 34; (with_reducible refine (PN2.out _ H1.out).mono ?_); rintro e' w2 ⟨rfl, T', hs⟩; have H2 := Aside0.mk hs; obtain ⟨o1, -⟩ := sit_oddc hs; clear hs) | (go_at_call 32; (with_reducible refine (sit_all H2.out (by have := HL.out; omega)).mono ?_); rintro e' w5 ⟨A5, c5, rfl, hc5, hs⟩; have H5 := Aside0.mk hs; clear hs))
  all_goals
    go_ret2
    first | exact ⟨_, rfl, H5.out.rowR, H5.out.below⟩ | exact ⟨_, rfl, Kd.R_nil _ _ _ _ _, H2.out.below⟩
end Go.Proofs.Ytgdelfckhcgnhaa.Code
