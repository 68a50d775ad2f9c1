/- book.Over: the walk. No conditions beside those that the contract states. -/
import Derived.Test.YtjhdjkanepdgiaaBookIterA
import Derived.Shelf.Abstract
namespace Go.Proofs.Ytjhdjkanepdgiaa.Over
open Go Go.RowKit Go.Proofs.Ytjhdjkanepdgiaa.Pa Go.Proofs.Ytjhdjkanepdgiaa.Pb Go.Proofs.Ytjhdjkanepdgiaa.Book Go.Proofs.YtjhdjkanepdgiaaW.PrintWords Go.Proofs.YtjhdjkanepdgiaaW.PrintLast Go.Proofs.YtjhdjkanepdgiaaW.PrintMore Go.Proofs.Ytjhdjkanepdgiaa.Due Go.Proofs.Ytjhdjkanepdgiaa.Range
attribute [local go_sem] Oper.semAt_some
set_option linter.unusedVariables false
set_option linter.unusedSimpArgs false

def dueOf (x : Booking) : D := ⟨x.f1, x.f0⟩
def overS (l : List Booking) : List D := l.foldl (fun s x => ins (dueOf x) s) []
theorem overS_take {l : List Booking} {k : Nat} (h : k < l.length) : overS (l.take (k + 1)) = ins (dueOf l[k]) (overS (l.take k)) := by
  unfold overS
  rw [List.take_succ_eq_append_getElem h, List.foldl_append]; rfl
theorem ins_length (x : D) (s : List D) : (ins x s).length = s.length + 1 := by
  have := (ins_perm x s).length_eq
  simpa using this
theorem overS_length (l : List Booking) : ∀ n, n = l.length → (overS l).length = n := by
  suffices h : ∀ (l : List Booking) (s : List D), (l.foldl (fun s x => ins (dueOf x) s) s).length = s.length + l.length by
    intro n hn
    unfold overS
    rw [h l [], hn]; simp
  intro l
  induction l with
  | nil => intro s; simp
  | cons x r ih => intro s; rw [List.foldl_cons, ih, ins_length]; simp; omega
def overP (l : List Booking) (now : Int) : List Int := if mayB l = true then ((overS l).takeWhile (comeB now)).map (·.f1) else []
/-- While the queue is filled. -/
def Fill (w : World) (q : Nat) (s : List D) (W : World) : Prop := ∃ F : Nat → Prop, Que W q F s ∧ (∀ k, F k → w.heap.size ≤ k) ∧ Below w.heap.size w W
theorem Fill.new {w W : World} (h : Below w.heap.size w W) : Fill w W.heap.size [] (W.alloc (.cells #[.slice none 0 0] 69)) := by
  refine ⟨fun k => k = W.heap.size, ⟨[], ⟨?_, List.Pairwise.nil, List.Perm.nil⟩, none, 0, heap_alloc_new W _, ?_, rfl, fun k hk => by simp [Value.ownBlock] at hk, fun k hk => by subst hk; simp⟩, fun k hk => by subst hk; exact h.size, h.alloc h.size _⟩
  · intro k h0 hk; simp at hk
  · exact ⟨rfl, .inl ⟨rfl, rfl⟩⟩
set_option maxRecDepth 100000 in
set_option maxHeartbeats 16000000 in
theorem over_any (now : Int) (A : Option Addr) (c : Nat) (l : List Booking) (w : World) (hC : Kd.C k25 w A l.length l) (hc : l.length ≤ c) (hl : l.length ≤ 999999999) :
    Calls Try.prog 20 #[.slice A l.length c, .int .i64 now] w fun e w' => ∃ v, e = .returned v ∧ Kd.R (Kd.int .i64) 3 w' w.heap.size (fun _ => True) v (overP l now) ∧ Below w.heap.size w w' := by
  have pm := book_May.calls (l.length + 1) A c l _ w hC hc (may_f (by omega) (Nat.lt_succ_self _))
  obtain ⟨n, hn⟩ : ∃ n, n = l.length := ⟨_, rfl⟩
  obtain ⟨r, hr⟩ : ∃ r, r = overP l now := ⟨_, rfl⟩
  rw [← hr]
  unfold overP at hr
  by_cases hm : mayB l = true
  · rw [if_pos hm] at hr
    rw [hm] at pm
    have hm8 := (mayB_iff.1 hm).2.2
    have hpc := come_any
    have HX := Aside0.mk (And.intro hC (And.intro hc (And.intro hr (And.intro hn hm8))))
    rw [← hn] at pm ⊢
    have hn8 : n ≤ 8 := by omega
    clear hC hc hl hr hm hm8 hn
    refine (callsIn_wide (n := 6)).1 ?_
    refine callsIn_of_wp_marks Try.func20 rfl trivial ?_
    simp only [Try.ntmps20, List.size_toArray, List.length_cons, List.length_nil, Nat.reduceAdd, Nat.reduceSub, Array.replicate_succ, Array.replicate_zero, List.push_toArray, List.append_toArray, List.nil_append, List.cons_append]
    gi_wp2_with (refine ⟨trivial, ?_⟩; gi_at_call 10; refine (callsIn_wide.2 pm).mono ?_; rintro e w1 ⟨rfl, hb⟩; have HB := Aside0.mk hb; clear hb pm)
    obtain ⟨q, hq⟩ : ∃ q, q = w1.heap.size := ⟨_, rfl⟩
    have h0 : Fill w q [] (w1.alloc (.cells #[.slice none 0 0] 69)) := by rw [hq]; exact Fill.new HB.out
    rw [← hq]
    have H0 := Aside0.mk h0
    clear h0 hq
    gi_loopw [17] (fun iv wr => ∃ k : Nat, k ≤ n ∧ iv = .int .i64 k ∧ Aside0 (Fill w q (overS (l.take k)) wr)) (fun iv _ => n - (intOf iv).toNat)
    case atStart => exact ⟨0, by omega, rfl, H0⟩
    case round =>
      clear H0 HB
      obtain ⟨k, hk, rfl, HF⟩ := hrel
      by_cases hlt : k < n
      · obtain ⟨F, hQ, hFb, hB⟩ := HF.out
        obtain ⟨ad, A2, c2, rfl, b0, b1, b2, _, _⟩ := at_T25 (Kd.C_below HX.out.1 hB) (k : Int) (by omega) (by rw [← HX.out.2.2.2.1]; omega)
        rw [Int.toNat_natCast] at b0 b1 b2
        have hkl : k < l.length := by rw [← HX.out.2.2.2.1]; exact hlt
        have hov := overS_take hkl
        have hx : rd_T25 l (k : Int) = l[k] := rdB hkl
        rw [← hx] at hov
        obtain ⟨x, hxx⟩ : ∃ x, x = rd_T25 l (k : Int) := ⟨_, rfl⟩
        rw [← hxx] at b0 b1 b2 hov
        have hp := fun W (hb : Below wr.heap.size wr W) => qput_any q F (overS (l.take k)) (dueOf x) W (hQ.below hb) (by rw [overS_length _ _ rfl, List.length_take]; omega)
        rw [← hov] at hp
        have HP := Aside0.mk hp
        have HQ := Aside0.mk (And.intro hFb hB)
        clear hQ hFb hB hx hxx hov hp hkl
        gi_wp2_with (refine ⟨trivial, ?_⟩; gi_at_call 37; refine (callsIn_wide.2 (HP.out _ ((Below.refl _ _).alloc (Nat.le_refl _) _))).mono ?_; rintro e w2 ⟨rfl, ht⟩; have HT := Aside0.mk ht; clear ht)
        obtain ⟨F', k1, k2, k3⟩ := HT.out
        refine ⟨⟨k + 1, by omega, by go_num, ⟨F', k1, fun k hk => ?_, k3.below (HQ.out.2.alloc HQ.out.2.size _) (by have := HQ.out.2.size; simp; omega) HQ.out.1⟩⟩, by simp [intOf]; omega⟩
        rcases k2 k hk with h | h
        · exact HQ.out.1 k h
        · have := HQ.out.2.size; simp at h; omega
      · have hkn : k = n := by omega
        subst k
        have hF := HF.out
        rw [List.take_of_length_le (by rw [HX.out.2.2.2.1]; exact Nat.le_refl _)] at hF
        obtain ⟨S, hS⟩ : ∃ S, S = overS l := ⟨_, rfl⟩
        have hSl : S.length ≤ 8 := by rw [hS, overS_length l _ rfl]; exact HX.out.2.2.2.2
        rw [← hS] at hF
        have HS := Aside0.mk hS
        have HF2 := Aside0.mk hF
        clear hF HF hS
        gi_wp2_with (refine ⟨trivial, ?_⟩; gi_at_call 38; refine (callsIn_wide.2 (hpc _ _ _)).mono ?_; rintro e w2 ⟨rfl, rfl⟩)
        obtain ⟨F0, hQ0, hb0, hB0⟩ := HF2.out
        obtain ⟨F, hQ, hFF, hFc⟩ := que_tight hQ0
        have hFl := hQ.lt
        obtain ⟨o, ho⟩ : ∃ o, o = wr.heap.size := ⟨_, rfl⟩
        obtain ⟨bq, hbq⟩ : ∃ bq, bq = o + 1 := ⟨_, rfl⟩
        obtain ⟨bn, hbn⟩ : ∃ bn, bn = o + 1 + 1 := ⟨_, rfl⟩
        have hbel : Below wr.heap.size wr (((wr.alloc (.cells #[.slice none 0 0] 47)).alloc (.cells #[.pointer (some ⟨q, 0, none⟩)] 65)).alloc (.cells #[.int .i64 now] 3)) := (((Below.refl _ _).alloc (Nat.le_refl _) _).alloc (by simp) _).alloc (by simp; omega) _
        have hM : Mid w q o bq bn now S [] (((wr.alloc (.cells #[.slice none 0 0] 47)).alloc (.cells #[.pointer (some ⟨q, 0, none⟩)] 65)).alloc (.cells #[.int .i64 now] 3)) := by
          have a1 : (((wr.alloc (.cells #[.slice none 0 0] 47)).alloc (.cells #[.pointer (some ⟨q, 0, none⟩)] 65)).alloc (.cells #[.int .i64 now] 3)).heap[o]? = some (.cells #[.slice none 0 0] 47 (0, 0)) := by
            rw [ho]
            exact (Below.heap_alloc _ _ _ (by simp; omega)).trans ((Below.heap_alloc _ _ _ (by simp)).trans (heap_alloc_new wr _))
          have a2 : (((wr.alloc (.cells #[.slice none 0 0] 47)).alloc (.cells #[.pointer (some ⟨q, 0, none⟩)] 65)).alloc (.cells #[.int .i64 now] 3)).heap[bq]? = some (.cells #[.pointer (some ⟨q, 0, none⟩)] 65 (0, 0)) := by
            have := heap_alloc_new (wr.alloc (.cells #[.slice none 0 0] 47)) (.cells #[.pointer (some ⟨q, 0, none⟩)] 65)
            rw [World.size_alloc, ← ho, ← hbq] at this
            exact (Below.heap_alloc _ _ _ (by simp; omega)).trans this
          have a3 : (((wr.alloc (.cells #[.slice none 0 0] 47)).alloc (.cells #[.pointer (some ⟨q, 0, none⟩)] 65)).alloc (.cells #[.int .i64 now] 3)).heap[bn]? = some (.cells #[.int .i64 now] 3 (0, 0)) := by
            have := heap_alloc_new ((wr.alloc (.cells #[.slice none 0 0] 47)).alloc (.cells #[.pointer (some ⟨q, 0, none⟩)] 65)) (.cells #[.int .i64 now] 3)
            rw [World.size_alloc, World.size_alloc, ← ho] at this
            rw [hbn]; exact this
          refine ⟨⟨F, hQ.below hbel, fun k hk => ⟨hb0 k (hFF k hk), ?_, ?_, ?_, ?_⟩, _, a1, Kd.R_nil _ _ _ _ _⟩, a2, a3, hB0.trans (hbel.mono hB0.size)⟩
          · have := hFl k hk; omega
          · have := hFl k hk; omega
          · have := hFl k hk; omega
          · obtain ⟨cells, t, e⟩ := hFc k hk
            exact ⟨cells, t, (hbel.block k (hFl k hk)).trans e⟩
        have hz : (((wr.alloc (.cells #[.slice none 0 0] 47)).alloc (.cells #[.pointer (some ⟨q, 0, none⟩)] 65)).alloc (.cells #[.int .i64 now] 3)).heap.size = o + 3 := by simp [ho]
        rw [← ho]
        have hwo : w.heap.size ≤ o := by rw [ho]; exact hB0.size
        generalize hW0 : (((wr.alloc (.cells #[.slice none 0 0] 47)).alloc (.cells #[.pointer (some ⟨q, 0, none⟩)] 65)).alloc (.cells #[.int .i64 now] 3)) = W0 at *
        rw [← hbn, ← hbq]
        clear hbn hbq
        have HM := Aside0.mk hM
        have hwW : w.heap.size ≤ W0.heap.size := by omega
        clear hM hbel hQ0 hb0 hB0 hQ hFF hFc hFl hpc HF2 hW0 ho
        refine range_all2 rfl (by omega) (gf := 44) (lb := #[.pointer (some ⟨bq, 0, none⟩), .pointer (some ⟨bn, 0, none⟩)]) rfl trivial (Go.Proofs.enters_of Try.func44 (by kernel_rfl) rfl) (α := D) (encs := fun x => #[.agg #[.int .i64 x.f0, .int .i64 x.f1]]) (fun _ => rfl)
          (fun pre W => Mid w q o bq bn now (S.drop (pre.length + 1)) (pre.map (fun y : D => y.f1)) W ∧ pre.length < S.length)
          (fun pre W => Mid w q o bq bn now (S.drop pre.length) (pre.map (fun y : D => y.f1)) W)
          (fun xs W => xs = S.takeWhile (comeB now) ∧ ∃ t, Mid w q o bq bn now t (xs.map (fun y : D => y.f1)) W)
          (fun (pre : List D) (x : D) a1 W => (∃ b, a1 = ({ tmps := #[.slice A n c, .int .i64 now, undef, undef, .slice none 0 0, .pointer (some ⟨q, 0, none⟩), undef, u7, .pointer (some ⟨o, 0, none⟩), .pointer (some ⟨b, 0, none⟩), .slice A n c, .bool true, .bool false, .agg #[.slice none 0 0], .pointer (some ⟨q, 0, none⟩), .slice A n c, .int .i64 (n : Int), .int .i64 (n : Int), .bool false, u19, u20, u21, u22, u23, u24, u25, u26, u27, u28, .pointer (some ⟨q, 0, none⟩), .int .i64 now, .func (.func 44) #[] #[.pointer (some ⟨bq, 0, none⟩), .pointer (some ⟨bn, 0, none⟩)], .agg #[.int .i64 x.f0, .int .i64 x.f1], undef, undef, undef, undef, undef, undef], defers := [] } : Act) ∧ W.heap[b]? = some (.cells #[.int .i64 x.f0, .int .i64 x.f1] 72 (0, 0))) ∧ Mid w q o bq bn now (S.drop (pre.length + 1)) (pre.map (fun y : D => y.f1)) W ∧ pre.length < S.length)
          (fun pre W l o o' h1 h2 h3 h => ⟨h.1.putObj l o o' (Nat.le_trans hwW h1) h2 h3, h.2⟩) (fun pre W l o o' h1 h2 h3 h => h.putObj l o o' (Nat.le_trans hwW h1) h2 h3) (fun pre W l o o' h1 h2 h3 h => ⟨h.1, h.2.choose, h.2.choose_spec.putObj l o o' (Nat.le_trans hwW h1) h2 h3⟩)
          (fun pre x a1 W l o o' h1 h2 h3 h => ⟨⟨h.1.choose, h.1.choose_spec.1, by
            rw [World.putObj_heap_other (fun e => by have := h.1.choose_spec.2; rw [e, h2] at this; cases this; cases h3)]
            exact h.1.choose_spec.2⟩, h.2.1.putObj l o o' (Nat.le_trans hwW h1) h2 h3, h.2.2⟩)
          (fun W => Mid w q o bq bn now S [] W) (fun o o' => (HM.out.alloc o).alloc o') ?assign ?body ?iter ?done
        case assign =>
          intro l pre x W K hJ hK
          gi_wp2
          exact hK _ _ ⟨⟨W.heap.size, rfl, heap_alloc_new W _⟩, hJ.1.alloc _, hJ.2⟩ (KeepsOthers.alloc _ _)
        case iter =>
          intro l K hK hY W hJ hk
          refine (iter_come 5 (by omega) l q o bq bn now w S (by omega) K hK (fun k hk' W' hm hkw hle => ?_) W hJ hk).mono ?_
          · have hlen : (S.take k).length = k := by rw [List.length_take]; omega
            obtain ⟨fn, tmps, assign, body, hy, hR⟩ := hY (S.take k) S[k] W' ⟨by rw [hlen]; exact hm, by rw [hlen]; exact hk'⟩ hkw
            refine ⟨fn, tmps, assign, body, hy, hR.mono ?_⟩
            rintro e W2 ⟨h1, h2, h3⟩
            refine ⟨h1, ?_, h3⟩
            rw [List.length_append, hlen, List.length_singleton, ← List.take_succ_eq_append_getElem hk'] at h2
            exact h2
          · rintro e W2 ⟨h1, ⟨t, h2⟩, h3⟩
            exact ⟨h1, _, ⟨rfl, t, h2⟩, h3⟩
        case body =>
          rintro l pre x a1 W ⟨⟨b, rfl, hbx⟩, hM, hpl⟩
          obtain ⟨F, hQ, hF, v, hv, hR⟩ := hM.que
          obtain ⟨A1, c1, rfl⟩ := Kd.R_slice hR
          have hb1 : W.cell? ⟨b, 1, none⟩ = some (.int .i64 x.f1) := by rw [cell_of_row _ _ _ _ _ _ hbx]; rfl
          have ho0 : W.cell? ⟨o, 0, none⟩ = some (.slice A1 (pre.map (fun y : D => y.f1)).length c1) := by rw [cell_of_row _ _ _ _ _ _ hv]; rfl
          have hbl : b < W.heap.size := (Array.getElem?_eq_some_iff.1 hbx).1
          have hol : o < W.heap.size := (Array.getElem?_eq_some_iff.1 hv).1
          obtain ⟨L, hL⟩ : ∃ L, L = (pre.map (fun y : D => y.f1)).length := ⟨_, rfl⟩
          have hL8 : L ≤ 8 := by rw [hL, List.length_map]; omega
          have hrow := Kd.own_of_R hR
          have HH := Aside0.mk (And.intro hM (And.intro hQ (And.intro hF (And.intro hv hR))))
          rw [← hL] at ho0 hrow HH
          have HL := Aside0.mk hL
          have hsz := hM.bel.size
          have HROW := Aside0.mk hrow
          have key : ∀ (v1 : Value) (w1 : World), w1.ownsRow w.heap.size 3 1 v1 (L + 1) (encs (Value.int .i64) (pre.map (fun y : D => y.f1)) ++ [.int .i64 x.f1]) → (W.alloc (.cells #[.int .i64 x.f1] 3)).grownBy w1 (Value.slice A1 L c1).ownBlock → (v1.ownBlock = (Value.slice A1 L c1).ownBlock ∨ ∃ b, v1.ownBlock = some b ∧ W.heap.size ≤ b) →
              KeepsOthers W (w1.setCell ⟨o, 0, none⟩ v1) ∧ Mid w q o bq bn now (S.drop (pre.length + 1)) (pre.map (fun y : D => y.f1) ++ [x.f1]) (w1.setCell ⟨o, 0, none⟩ v1) ∧ Boxed w1 o 47 (.slice A1 L c1) := fun v1 w1 ho1 hg1 hat => by
            obtain ⟨hM, hQ, hF, hv, hR⟩ := HH.out
            exact Mid.appended hwo hM hQ hF hv hR (by rw [← HL.out]; exact ho1) hg1 hat
          have KEY := Aside0.mk key
          clear hM hQ hF hv hR hbx hL hrow key
          refine wpIn_block ?_
          gi_wp2_with (gi_at_builtin; refine wpListIn_append_at w.heap.size rfl (.tmp 33) (.tmp 36) 47 3 (.int .i64 0) 1 8 rfl Try.underlying47 info3 rfl (by decide) (by decide) (.slice A1 L c1) L (encs (Value.int .i64) (pre.map (fun y : D => y.f1))) [.int .i64 x.f1] rfl rfl rfl (by simp [Value.oneCell']) HROW.out hsz (by omega) ?_; intro v1 w1 ho1 hg1 hat; obtain ⟨A2, c2, rfl⟩ := own_slice ho1; obtain ⟨r1, r2, r3⟩ := KEY.out _ w1 ho1 hg1 hat; have hc1 := r3.cell; have hc2 := r3.frozen; have HX1 := Aside0.mk (And.intro r1 r2); clear ho1 hg1 hat r1 r2 r3)
          refine ⟨trivial, HX1.out.1, ?_⟩
          rw [List.length_append, List.length_singleton, List.map_append]
          exact HX1.out.2
        case done =>
          rintro Dd xs W ⟨rfl, t, hm⟩ hD hle
          obtain ⟨F, hQ, hF, v, hv, hR⟩ := hm.que
          have ho0 : W.cell? ⟨o, 0, none⟩ = some v := by rw [cell_of_row _ _ _ _ _ _ hv]; rfl
          gi_wp2
          refine ⟨by simp, .inl ⟨_, _, rfl, run_takeDeferred hD, ?_⟩⟩
          refine ⟨_, results_tmp rfl _ _ _, ?_⟩
          have hp := hm.putObj Dd _ (.deferred none) (Nat.le_trans hwW hle) hD rfl
          obtain ⟨F2, hQ2, hF2, v2, hv2, hR2⟩ := hp.que
          have hvv : v = v2 := by
            have := World.putObj_heap_other (w := W) (r := Dd) (o := .deferred none) (k := o) (fun e => by rw [e, hD] at hv; cases hv)
            rw [hv2, hv] at this
            cases this; rfl
          subst hvv
          refine ⟨_, rfl, ?_, hp.bel⟩
          have hrr : r = (S.takeWhile (comeB now)).map (fun y : D => y.f1) := by rw [HX.out.2.2.1, HS.out]
          rw [hrr]
          exact Kd.R_mono hR2 (fun _ _ => trivial)
  · have hmf : mayB l = false := by simpa using hm
    rw [if_neg hm] at hr
    rw [hmf] at pm
    have HR := Aside0.mk hr
    rw [← hn] at pm ⊢
    clear hC hc hl hr hm hmf hn
    go_enter Try.func20, Try.ntmps20
    go_wp2_with (go_at_call 10; refine pm.mono ?_; rintro e w1 ⟨rfl, hb⟩; have HB := Aside0.mk hb; clear hb)
    go_ret
    exact ⟨_, rfl, by rw [HR.out]; exact Kd.R_nil _ _ _ _ _, HB.out⟩
end Go.Proofs.Ytjhdjkanepdgiaa.Over
