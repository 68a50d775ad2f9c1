/- What was put is got, in that order, and nothing is left (CodeBackSaid): the walk. No conditions beside those that each theorem states. -/
import Derived.Test.YtamgeophebillaaCodePuts
namespace Go.Proofs.Ytamgeophebillaa.Code
open Go.RowKit Go.Proofs.Ytamgeophebillaa.Pa Go.Proofs.YtamgeophebillaaW.PrintWords Go.Proofs.YtamgeophebillaaW.PrintLast Go.Proofs.YtamgeophebillaaW.PrintMore
set_option linter.unusedVariables false

theorem infoE32 : (Try.prog.info? 32).map (fun i => (i.zero, i.size, i.bytes)) = some (some (.agg #[.int .i64 0, .int .i64 0, .slice none 0 0]), 3, 40) := by kernel_rfl
/-! #### A row of calls whose bytes lay there before -/
def OldK (w0 : World) (x : S32) (cs : List Value) : Prop := ∃ A c, cs = [.int .i64 x.f0, .int .i64 x.f1, .slice A x.f2.length c] ∧ x.f2.length ≤ c ∧ Kd.C (Kd.int .u8) w0 A x.f2.length x.f2
def kOld (w0 : World) : Kd S32 where
  sz := 3
  E := []
  K _ x cs := OldK w0 x cs
  M _ _ _ x cs := OldK w0 x cs
  K_len h := by obtain ⟨A, c, rfl, _⟩ := h; rfl
  K_one h := by obtain ⟨A, c, rfl, _⟩ := h; intro u hu; simp at hu; rcases hu with rfl | rfl | rfl <;> rfl
  K_below _ h := h
  K_of_M h := h
  M_mono _ h := h
  M_bound h := h
  M_move _ h := h
  M_lower _ h := h
def doneL (w0 : World) (v : Value) (l : List S32) : World → (Nat → Prop) → Prop := fun W F => Kd.R (kOld w0) 32 W 0 F v l
theorem doneM (w0 : World) (v : Value) (l : List S32) : Moves (doneL w0 v l) := fun h hw hn => Kd.R_kept h hw.kept hn
def Thing.done (w0 : World) (v : Value) (l : List S32) : Thing := .gen (doneL w0 v l) (doneM w0 v l)
theorem Sit.growDone {w0 W : World} {T : List Thing} {v : Value} {l : List S32} (h : Sit w0 W (.done w0 v l :: T)) : ∃ F : Nat → Prop, Kd.R (kOld w0) 32 W 0 F v l ∧ ∀ W2 v2 l2, Kd.R (kOld w0) 32 W2 0 (fun k => F k ∨ W.heap.size ≤ k) v2 l2 → W.grownBy W2 v.ownBlock → Sit w0 W2 (.done w0 v2 l2 :: T) := by
  obtain ⟨hb, F, h1, h2, h3⟩ := h
  have h1' : Kd.R (kOld w0) 32 W 0 F v l := h1
  refine ⟨F, h1', fun W2 v2 l2 hr hg => ?_⟩
  have hr2 := Kd.R_bound hr
  refine Sit.turn (t := .done w0 v l) hb h2 h3 (F' := fun k => (F k ∨ W.heap.size ≤ k) ∧ k < W2.heap.size) (t' := .done w0 v2 l2) ?_ (fun k hk => hk) ⟨hg.os, hg.tape, hg.output, hg.size, fun i hi hn => hg.block i hi (fun e => hn (h1'.1 i e.symm))⟩
  exact Kd.R_mono hr2 (fun k hk => ⟨hk.1, hk.2.2.1⟩)
theorem Sit.nildone {w0 W : World} {T : List Thing} (h : Sit w0 W T) : Sit w0 W (.done w0 (.slice none 0 0) [] :: T) :=
  ⟨h.below, fun _ => False, Kd.R_nil _ _ _ _ _, fun k hk => hk.elim, h.all.mono (fun k _ h => by rcases h with h | h <;> exact h)⟩
theorem Sit.atDone {w0 W : World} {T : List Thing} {A : Option Addr} {n c : Nat} {l : List S32} (h : Sit w0 W (.done w0 (.slice A n c) l :: T)) (k : Nat) (hk : k < l.length) : ∃ ad A2 c2, A = some ad ∧ (rd_T32 l k).f2.length ≤ c2 ∧ Kd.C (Kd.int .u8) w0 A2 (rd_T32 l k).f2.length (rd_T32 l k).f2 ∧ W.cell? (ad.add (k * 3)) = some (.int .i64 (rd_T32 l k).f0) ∧ W.cell? ⟨(ad.add (k * 3)).block, (ad.add (k * 3)).off + 1, none⟩ = some (.int .i64 (rd_T32 l k).f1) ∧ W.cell? ⟨(ad.add (k * 3)).block, (ad.add (k * 3)).off + 2, none⟩ = some (.slice A2 (rd_T32 l k).f2.length c2) := by
  obtain ⟨hb, F, h1, h2, h3⟩ := h
  have h1' : Kd.R (kOld w0) 32 W 0 F (.slice A n c) l := h1
  obtain ⟨ad, cs, e, _, hK, hc0⟩ := Kd.C_get (Kd.R_reads' h1').2.2 z32 (k : Int) (by omega) (by omega)
  obtain ⟨A2, c2, rfl, l2, g2⟩ := hK
  have hc : ∀ j u, [Value.int .i64 (rd_T32 l k).f0, .int .i64 (rd_T32 l k).f1, .slice A2 (rd_T32 l k).f2.length c2][j]? = some u → W.cell? (ad.add (k * 3 + j)) = some u := hc0
  refine ⟨ad, A2, c2, e, l2, g2, hc 0 _ rfl, ?_, ?_⟩
  · rw [← add_field _ _ _ (by decide)]; exact hc 1 _ rfl
  · rw [← add_field _ _ _ (by decide)]; exact hc 2 _ rfl

/-! #### The bytes of calls -/
def encs (l : List S32) : List Int := l.flatMap putB
theorem putB_none {x : S32} (h : putE x ≠ 0) : putB x = [] := by
  unfold putE at h
  unfold putB
  split
  · rw [if_pos (by assumption)] at h
    split
    · rfl
    · rw [if_neg (by assumption)] at h; exact absurd rfl h
  · rw [if_neg (by assumption)] at h
    split
    · rw [if_pos (by assumption)] at h; exact absurd rfl h
    · rw [if_neg (by assumption)] at h
      split
      · rfl
      · rw [if_neg (by assumption)] at h; exact absurd rfl h
theorem putB_bytes {x : S32} (h : Bytes x.f2) : Bytes (putB x) := by
  unfold putB
  split
  · split
    · intro y hy; simp at hy
    · exact digs_bytes _
  · split
    · exact digs_bytes _
    · split
      · intro y hy; simp at hy
      · exact (digs_bytes _).append h
theorem encs_bytes {l : List S32} (h : ∀ x ∈ l, Bytes x.f2) : Bytes (encs l) := by
  intro y hy
  obtain ⟨x, hx, hy⟩ := List.mem_flatMap.1 hy
  exact putB_bytes (h x hx) y hy
theorem encs_snoc (l : List S32) (x : S32) : encs (l ++ [x]) = encs l ++ putB x := by simp [encs]
theorem encs_drop {l : List S32} {k : Nat} (h : k < l.length) : encs (l.drop k) = putB (rd_T32 l k) ++ encs (l.drop (k + 1)) := by
  rw [rdT_drop h]; rfl
def Fine (l : List S32) : Prop := ∀ x ∈ l, qP x ∧ putE x = 0 ∧ Bytes x.f2
theorem Bytes_of {l : List S32} (hw : ∀ z ∈ l, qT32 z) {k : Nat} (hk : k < l.length) : Bytes (rd_T32 l k).f2 := by
  have h := (hw (rd_T32 l k) (by simp [rd_T32, hk])).2.2
  intro y hy
  have := h y hy
  simp [Lit.wf, IntKind.min, IntKind.max, IntKind.bits, IntKind.signed] at this
  omega
set_option maxRecDepth 100000 in
set_option maxHeartbeats 32000000 in
theorem codeBack_any (A0 : Option Addr) (c0 : Nat) (l : List S32) (w : World) (hr : Kd.C k32 w A0 l.length l) (hc : l.length ≤ c0) (hw : ∀ z ∈ l, qT32 z) : Calls Try.prog 5 #[.slice A0 l.length c0] w fun e w' => e = .returned (.bool true) ∧ Below w.heap.size w w' := by
  have HR := Aside0.mk (And.intro hr (And.intro hc hw))
  have hmax := Kd.C_max hr
  clear hr hc hw
  have p1 := awake_any w
  go_enter Try.func5, Try.ntmps5
  go_wp2_with fail
  go_at_call 8
  refine p1.mono ?_
  rintro e w1 ⟨rfl, hb⟩
  have p2 := few_any A0 c0 l w1 (Kd.C_below HR.out.1 hb) HR.out.2.1
  obtain ⟨b, hbe⟩ : ∃ b, b = fewB l := ⟨_, rfl⟩
  rw [← hbe] at p2
  have HBE := Aside0.mk hbe
  have HB := Aside0.mk hb
  clear p1 hb hbe
  go_wp2_with fail
  go_at_call 9
  refine p2.mono ?_
  rintro e w2 ⟨rfl, hd⟩
  have HB2 := Aside0.mk (below_then HB.out HB.out.size hd.below)
  clear p2 hd HB
  cases b with
  | false =>
    go_wp2
    go_ret
    exact ⟨rfl, HB2.out⟩
  | true =>
    have HF := Aside0.mk (fewB_all HBE.out.symm)
    have hl40 := HF.out.1
    have S0 := Aside0.mk (((Sit.refl w).behind HB2.out).nildone.fresh)
    go_wp2
    go_loopw [6, 7] (fun wv iv wr => ∃ (k : Nat) (A : Option Addr) (c : Nat) (ds : List S32), k ≤ l.length ∧ iv = .int .i64 k ∧ wv = .slice A ds.length c ∧ ds.length ≤ k ∧ (encs ds).length ≤ k * 5010 ∧ Aside0 (Fine ds) ∧ Aside0 (Sit w wr [.out w2.heap.size (encs ds), .done w (.slice A ds.length c) ds])) (fun _ iv _ => l.length - (intOf iv).toNat)
    case atStart => exact ⟨0, none, 0, [], by omega, rfl, rfl, by simp, by simp [encs], ⟨fun x hx => by simp at hx⟩, S0⟩
    case round =>
      clear S0
      obtain ⟨k, A, c, ds, hk, rfl, rfl, hdl, hel, HFI, HS⟩ := hrel
      by_cases hlt : k < l.length
      · obtain ⟨ad, A2, c2, rfl, hc2, hC2, hcells⟩ := at_op HR.out.1 k hlt
        have hq := qP_of HR.out.2.2 HF.out.2 hlt
        have hby := Bytes_of HR.out.2.2 hlt
        have HC := Aside0.mk hcells
        obtain ⟨x, hx⟩ : ∃ x, x = rd_T32 l k := ⟨_, rfl⟩
        rw [← hx] at hc2 hC2 HC hq hby
        clear hcells hx
        obtain ⟨b0, b1, b2⟩ := HC.out wr HS.out.below
        have hpl := putB_len hq
        have HQ := Aside0.mk (And.intro hq hby)
        by_cases hE : putE x = 0
        · have p := sit_put' x HS.out hq hC2 hc2 (by omega) hE rfl
          have HE := Aside0.mk hE
          have HOK := Aside0.mk (show OldK w x [.int .i64 x.f0, .int .i64 x.f1, .slice A2 x.f2.length c2] from ⟨A2, c2, rfl, hc2, hC2⟩)
          clear hE hq hby hC2 hc2 HS
          go_wp2_with fail
          go_at_call 10
          refine p.mono ?_
          rintro e w3 ⟨rfl, hs⟩
          obtain ⟨d0, d1, d2⟩ := HC.out w3 hs.below
          obtain ⟨F, hF, hgrow⟩ := hs.swap.growDone
          have HG := Aside0.mk (And.intro hF hgrow)
          obtain ⟨R, hR⟩ : ∃ R, R = ds ++ [x] := ⟨_, rfl⟩
          have hRl : R.length ≤ k + 1 := by rw [hR, List.length_append]; simp; omega
          have hRe : (encs R).length ≤ (k + 1) * 5010 := by rw [hR, encs_snoc, List.length_append]; omega
          have HRE := Aside0.mk hR
          clear p hs hF hgrow b0 b1 b2 hR
          go_wp2_with ((with_reducible refine gate_builtin (b := .append) (xs := #[.tmp 42, .tmp 47]) rfl ?_); at_builtin; refine Kd.R_append (kOld w) (w0 := w3) 0 rfl (.tmp 42) (.tmp 47) 22 32 (.agg #[.int .i64 0, .int .i64 0, .slice none 0 0]) 40 rfl Try.underlying22 infoE32 rfl (show 0 < 3 by decide) (by decide) (.slice A ds.length c) ds x [.int .i64 x.f0, .int .i64 x.f1, .slice A2 x.f2.length c2] (fun k => F k ∨ w3.heap.size ≤ k) (fun _ => False) rfl rfl HOK.out (fun _ h => h.elim) (fun k hk => .inr hk) (Kd.R_mono HG.out.1 (fun k hk => .inl hk)) (Below.refl _ _) (Nat.zero_le _) (by omega) ?_; intro v1 w5 ho hb hg hat; rw [← HRE.out] at ho; have HT := Aside0.mk (HG.out.2 w5 v1 _ ho hg); obtain ⟨A5, c5, rfl⟩ := Kd.R_slice ho; clear ho hb hg hat)
          go_wp2
          exact ⟨⟨k + 1, A5, c5, R, by omega, by go_num, rfl, hRl, hRe, ⟨fun y hy => by
            rw [HRE.out] at hy
            rcases List.mem_append.1 hy with hy | hy
            · exact HFI.out y hy
            · simp at hy
              subst hy
              exact ⟨HQ.out.1, HE.out, HQ.out.2⟩⟩, ⟨by have h := HT.out.swap; rw [← encs_snoc, ← HRE.out] at h; exact h⟩⟩, by simp [intOf]; omega⟩
        · have p := sit_put' x HS.out hq hC2 hc2 (by omega) rfl (putB_none hE)
          obtain ⟨E, hEE⟩ : ∃ E, E = putE x := ⟨_, rfl⟩
          rw [← hEE] at p hE
          have hE2 : (E == 0) = false := beq_eq_false_iff_ne.2 hE
          clear hE hEE hq hby hC2 hc2 HS
          go_wp2_with fail
          go_at_call 10
          refine p.mono ?_
          rintro e w3 ⟨rfl, hs⟩
          have HS3 := Aside0.mk hs
          clear p hs b0 b1 b2
          go_wp2
          exact ⟨⟨k + 1, A, c, ds, by omega, by go_num, rfl, by omega, by omega, HFI, ⟨by simpa using HS3.out⟩⟩, by simp [intOf]; omega⟩
      · obtain rfl : k = l.length := by omega
        have p := sit_all HS.out (by omega)
        clear HS
        go_wp2_with fail
        go_at_call 15
        refine p.mono ?_
        rintro e w3 ⟨A3, c3, rfl, hc3, hs⟩
        have p2 := sit_newin (c := c3) hs.tail.tail hs.row.2.2 hc3 (encs_bytes (fun x hx => (HFI.out x hx).2.2)) (by omega)
        clear p hs
        go_wp2_with fail
        go_at_call 16
        refine p2.mono ?_
        rintro e w4 ⟨g, rfl, hs⟩
        have HS := Aside0.mk hs
        clear hs p2
        go_wp2
        go_loopw [9] (fun iv wr => ∃ (k : Nat), k ≤ ds.length ∧ iv = .int .i64 k ∧ Aside0 (Sit w wr [.inn g (encs (ds.drop k)), .done w (.slice A ds.length c) ds])) (fun iv _ => ds.length - (intOf iv).toNat)
        case atStart => exact ⟨0, by omega, rfl, HS⟩
        case round =>
          clear HS
          obtain ⟨k, hk, rfl, HS⟩ := hrel
          by_cases hlt : k < ds.length
          · obtain ⟨ad, A2, c2, rfl, hc2, hC2, b0, b1, b2⟩ := HS.out.swap.atDone k hlt
            obtain ⟨hq, hE, hby⟩ := HFI.out (rd_T32 ds k) (by simp [rd_T32, hlt])
            have hdr := encs_drop hlt
            obtain ⟨x, hx⟩ : ∃ x, x = rd_T32 ds k := ⟨_, rfl⟩
            have HX := Aside0.mk hx
            rw [← hx] at b0 b1 b2 hq hE hby hdr
            obtain ⟨hq0, hq1, hq2⟩ := hq
            unfold putE at hE
            clear hx hc2 hC2
            by_cases k0 : x.f0 = 0
            · rw [if_pos k0] at hE
              have hneg : ¬ x.f1 < 0 := fun h => by rw [if_pos h] at hE; cases hE
              clear hE
              have e0 : (x.f0 == 0) = true := beq_iff_eq.2 k0
              have h0 : 0 ≤ x.f1 := by omega
              have hB : putB x = digs x.f1.toNat := by unfold putB; rw [if_pos k0, if_neg hneg]
              have p := sit_getnum HS.out
              rw [hdr, hB, getNum_put h0 hq1] at p
              simp only at p
              clear HS hB k0 hdr
              go_wp2_with fail
              go_at_call 17
              refine p.mono ?_
              rintro e w5 ⟨rfl, hs⟩
              obtain ⟨ad', A2', c2', e', hc2', hC2', d0, d1, d2⟩ := hs.swap.atDone k hlt
              cases e'
              rw [← HX.out] at d0 d1 d2 hC2' hc2'
              have HS5 := Aside0.mk hs
              clear hs b0 b1 b2 hC2' hc2'
              clear p
              go_wp2
              exact ⟨⟨k + 1, by omega, by go_num, ⟨HS5.out⟩⟩, by simp [intOf]; omega⟩
            · rw [if_neg k0] at hE
              have e0 : (x.f0 == 0) = false := beq_eq_false_iff_ne.2 k0
              by_cases k1 : x.f0 = 1
              · clear hE
                have e1 : (x.f0 == 1) = true := beq_iff_eq.2 k1

                have hB : putB x = digs (zig x.f1) := by unfold putB; rw [if_neg k0, if_pos k1]
                have p := sit_getint HS.out
                rw [hdr, hB, getInt_put hq0 hq1] at p
                simp only at p
                clear HS hB k0 k1 hdr
                go_wp2_with fail
                go_at_call 19
                refine p.mono ?_
                rintro e w5 ⟨rfl, hs⟩
                obtain ⟨ad', A2', c2', e', hc2', hC2', d0, d1, d2⟩ := hs.swap.atDone k hlt
                cases e'
                rw [← HX.out] at d0 d1 d2 hC2' hc2'
                have HS5 := Aside0.mk hs
                clear hs b0 b1 b2 hC2' hc2'
                clear p
                go_wp2
                exact ⟨⟨k + 1, by omega, by go_num, ⟨HS5.out⟩⟩, by simp [intOf]; omega⟩
              · rw [if_neg k1] at hE
                have hbig : ¬ 4096 < x.f2.length := fun h => by rw [if_pos h] at hE; cases hE
                clear hE
                have e1 : (x.f0 == 1) = false := beq_eq_false_iff_ne.2 k1

                have hB : putB x = digs x.f2.length ++ x.f2 := by unfold putB; rw [if_neg k0, if_neg k1, if_neg hbig]
                have p := sit_getbytes HS.out
                rw [hdr, hB, getBytes_put (by omega)] at p
                simp only at p
                clear HS hB k0 k1 hdr
                go_wp2_with fail
                go_at_call 21
                refine p.mono ?_
                rintro e w5 ⟨A6, c6, rfl, hc6, hs⟩
                obtain ⟨ad', A2', c2', e', hc2', hC2', d0, d1, d2⟩ := hs.tail.swap.atDone k hlt
                cases e'
                rw [← HX.out] at d0 d1 d2 hC2' hc2'
                have p6 := same_any hs.row.2.2 hc6 (Kd.C_below hC2' hs.below) hc2' (by omega)
                rw [show (x.f2 == x.f2) = true by simp] at p6
                have HS6 := Aside0.mk hs.tail
                clear hs b0 b1 b2 hC2' hc2'
                go_wp2_with fail
                go_at_call 14
                refine p6.mono ?_
                rintro e w6 ⟨rfl, hd⟩
                have HS5 := Aside0.mk (HS6.out.drawn hd)
                clear hd p6
                clear p
                go_wp2
                exact ⟨⟨k + 1, by omega, by go_num, ⟨HS5.out⟩⟩, by simp [intOf]; omega⟩
          · have hn0 : encs (ds.drop k) = [] := by rw [List.drop_of_length_le (by omega)]; rfl
            rw [hn0] at HS
            have p := sit_left HS.out
            clear hn0
            go_wp2_with fail
            go_at_call 23
            refine p.mono ?_
            rintro e w5 ⟨rfl, rfl⟩
            clear p
            go_wp2
            go_ret
            exact ⟨rfl, HS.out.below⟩
theorem codeBack_calls (A : Option Addr) (c : Nat) (l : List S32) (w : World) (h1 : l.length ≤ maxLen) (h2 : ∀ z ∈ l, qT32 z) (h3 : Kd.C k32 w A l.length l) (h4 : l.length ≤ c) : Calls Try.prog 5 #[.slice A l.length c] w fun e w' => e = .returned (.bool true) ∧ Below w.heap.size w w' := codeBack_any A c l w h3 h4 h2
end Go.Proofs.Ytamgeophebillaa.Code
