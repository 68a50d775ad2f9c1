/- Any calls answer, and make the bytes, that the document says (CodePutsSaid): the walk. No conditions beside those that each theorem states. -/
import Derived.Test.YtamgeophebillaaCodeRef
import Derived.Test.YtamgeophebillaaPaq
namespace Go.Proofs.Ytamgeophebillaa.Code
open Go.RowKit Go.Proofs.Ytamgeophebillaa.Pa Go.Proofs.YtamgeophebillaaW.PrintWords Go.Proofs.YtamgeophebillaaW.PrintLast Go.Proofs.YtamgeophebillaaW.PrintMore
set_option linter.unusedVariables false

/-! #### few, plainly -/
def fewB (l : List S32) : Bool := decide (l.length ≤ 40) && l.all fun x => decide (x.f2.length ≤ 5000)
theorem rdT_drop {l : List S32} {i : Nat} (h : i < l.length) : l.drop i = rd_T32 l i :: l.drop (i + 1) := by
  rw [List.drop_eq_getElem_cons h]
  congr 1
  simp [rd_T32, h]
theorem few_l {l : List S32} (hl : l.length ≤ 40) (d : Nat) : ∀ (k i : Nat), i + d = l.length → d < k →
    quartermasterlaw05_few.l0 k l i = some ((l.drop i).all fun x => decide (x.f2.length ≤ 5000)) := by
  induction d with
  | zero =>
    intro k i h hk
    obtain ⟨k, rfl⟩ : ∃ m, k = m + 1 := ⟨k - 1, by omega⟩
    simp only [quartermasterlaw05_few.l0]
    rw [if_neg (by omega), List.drop_of_length_le (by omega)]; rfl
  | succ d ih =>
    intro k i h hk
    obtain ⟨k, rfl⟩ : ∃ m, k = m + 1 := ⟨k - 1, by omega⟩
    simp only [quartermasterlaw05_few.l0]
    rw [if_pos (by omega), if_pos (by omega), rdT_drop (l := l) (i := i) (by omega)]
    have e6 : wrap64 ((i : Int) + 1) = ((i + 1 : Nat) : Int) := by unfold wrap64; omega
    by_cases he : (rd_T32 l i).f2.length ≤ 5000
    · rw [if_neg (by omega), e6, ih k (i + 1) (by omega) (by omega)]; simp [he]
    · rw [if_pos (by omega)]; simp [he]
theorem few_f (l : List S32) : quartermasterlaw05_few.f 41 l = some (fewB l) := by
  unfold quartermasterlaw05_few.f fewB
  by_cases h : l.length ≤ 40
  · rw [if_neg (by omega)]
    have := few_l h l.length 41 0 (by omega) (by omega)
    simpa [h] using this
  · rw [if_pos (by omega)]; simp [h]
theorem fewB_all {l : List S32} (h : fewB l = true) : l.length ≤ 40 ∧ ∀ k : Nat, k < l.length → (rd_T32 l k).f2.length ≤ 5000 := by
  unfold fewB at h
  simp only [Bool.and_eq_true, decide_eq_true_eq, List.all_eq_true] at h
  refine ⟨h.1, fun k hk => h.2 _ ?_⟩
  simp [rd_T32, hk]
theorem few_any (A : Option Addr) (c : Nat) (l : List S32) (w : World) (hC : Kd.C k32 w A l.length l) (hc : l.length ≤ c) : Calls Try.prog 9 #[.slice A l.length c] w fun e w' => e = .returned (.bool (fewB l)) ∧ Drawn0 w w' :=
  quartermasterlaw05_few.calls 41 A c l _ w hC hc (few_f l)

/-! #### A call -/
def putE (x : S32) : Int := if x.f0 = 0 then (if x.f1 < 0 then 1 else 0) else if x.f0 = 1 then 0 else if 4096 < x.f2.length then 2 else 0
def putB (x : S32) : List Int := if x.f0 = 0 then (if x.f1 < 0 then [] else digs x.f1.toNat) else if x.f0 = 1 then digs (zig x.f1) else if 4096 < x.f2.length then [] else digs x.f2.length ++ x.f2
def qP (x : S32) : Prop := -9223372036854775808 ≤ x.f1 ∧ x.f1 < 9223372036854775808 ∧ x.f2.length ≤ 5000
theorem zig_lt {n : Int} (h0 : -9223372036854775808 ≤ n) (h1 : n < 9223372036854775808) : zig n < 18446744073709551616 := by unfold zig; split <;> omega
theorem putB_len {x : S32} (h : qP x) : (putB x).length ≤ 5010 := by
  obtain ⟨h0, h1, h2⟩ := h
  unfold putB
  split
  · split
    · simp
    · have := digs_ten (n := x.f1.toNat) (by omega); omega
  · split
    · have := digs_ten (zig_lt h0 h1); omega
    · split
      · simp
      · have := digs_ten (n := x.f2.length) (by omega); rw [List.length_append]; omega
/-- A call puts. -/
def PutPost (w0 : World) (T : List Thing) (q : Nat) (bs : List Int) (x : S32) (e : Ending) (w' : World) : Prop := e = .returned (.int .i64 (putE x)) ∧ Sit w0 w' (.out q (bs ++ putB x) :: T)
set_option maxRecDepth 100000 in
set_option maxHeartbeats 8000000 in
theorem sit_put {w0 W : World} {T : List Thing} {q : Nat} {bs : List Int} (x : S32) {A : Option Addr} {c : Nat} (h : Sit w0 W (.out q bs :: T)) (hq : qP x) (hC : Kd.C (Kd.int .u8) w0 A x.f2.length x.f2) (hc : x.f2.length ≤ c) (hl : bs.length ≤ 549755813888) :
    Calls Try.prog 10 #[.pointer (some ⟨q, 0, none⟩), .agg #[.int .i64 x.f0, .int .i64 x.f1, .slice A x.f2.length c]] W (PutPost w0 T q bs x) := by
  have h' := h.skip (.cells #[.int .i64 x.f0, .int .i64 x.f1, .slice A x.f2.length c] 32)
  obtain ⟨q0, q1, q2⟩ := hq
  by_cases k0 : x.f0 = 0
  · have p := sit_num x.f1 h' q1 (by omega)
    have hp : Aside0 (∀ W', Sit w0 W' (.out q (if x.f1 < 0 then bs else bs ++ digs x.f1.toNat) :: T) → PutPost w0 T q bs x (.returned (.int .i64 (if x.f1 < 0 then 1 else 0))) W') := ⟨fun W' hs => by
      refine ⟨by unfold putE; rw [if_pos k0], ?_⟩
      unfold putB
      rw [if_pos k0]
      split
      · rw [if_pos (by assumption)] at hs; simpa using hs
      · rw [if_neg (by assumption)] at hs; exact hs⟩
    have e0 : (x.f0 == 0) = true := beq_iff_eq.2 k0
    obtain ⟨r, hr⟩ : ∃ r : Int, r = (if x.f1 < 0 then 1 else 0) := ⟨_, rfl⟩
    rw [← hr] at p hp
    have P := Aside0.mk p
    clear p k0 h h' hC hr
    go_enter Try.func10, Try.ntmps10
    go_wp2_with (go_at_call 24; refine P.out.mono ?_; rintro e w1 ⟨rfl, hs⟩)
    go_ret
    exact hp.out _ hs
  · have e0 : (x.f0 == 0) = false := beq_eq_false_iff_ne.2 k0
    by_cases k1 : x.f0 = 1
    · have e1 : (x.f0 == 1) = true := beq_iff_eq.2 k1
      have p := sit_int x.f1 h' q0 q1 (by omega)
      have hp : Aside0 (∀ W', Sit w0 W' (.out q (bs ++ digs (zig x.f1)) :: T) → PutPost w0 T q bs x (.returned (.int .i64 0)) W') := ⟨fun W' hs => by
        refine ⟨by unfold putE; rw [if_neg k0, if_pos k1], ?_⟩
        unfold putB
        rw [if_neg k0, if_pos k1]
        exact hs⟩
      have P := Aside0.mk p
      clear p k0 k1 h h' hC
      go_enter Try.func10, Try.ntmps10
      go_wp2_with (go_at_call 25; refine P.out.mono ?_; rintro e w1 ⟨rfl, hs⟩)
      go_ret
      exact hp.out _ hs
    · have e1 : (x.f0 == 1) = false := beq_eq_false_iff_ne.2 k1
      have p := sit_bytes_old h' hC hc hl
      have hp : Aside0 (∀ W', Sit w0 W' (.out q (if 4096 < x.f2.length then bs else bs ++ (digs x.f2.length ++ x.f2)) :: T) → PutPost w0 T q bs x (.returned (.int .i64 (if 4096 < x.f2.length then 2 else 0))) W') := ⟨fun W' hs => by
        refine ⟨by unfold putE; rw [if_neg k0, if_neg k1], ?_⟩
        unfold putB
        rw [if_neg k0, if_neg k1]
        split
        · rw [if_pos (by assumption)] at hs; simpa using hs
        · rw [if_neg (by assumption)] at hs; exact hs⟩
      obtain ⟨r, hr⟩ : ∃ r : Int, r = (if 4096 < x.f2.length then 2 else 0) := ⟨_, rfl⟩
      rw [← hr] at p hp
      have P := Aside0.mk p
      clear p k0 k1 h h' hC hr
      go_enter Try.func10, Try.ntmps10
      go_wp2_with (go_at_call 26; refine P.out.mono ?_; rintro e w1 ⟨rfl, hs⟩)
      go_ret
      exact hp.out _ hs
/-- A row that grew. -/
theorem Sit.grow {w0 W : World} {T : List Thing} {v : Value} {l : List Int} (h : Sit w0 W (.row v l :: T)) : ∃ F : Nat → Prop, Kd.R (Kd.int .u8) 5 W 0 F v l ∧ ∀ W2 v2 l2, Kd.R (Kd.int .u8) 5 W2 0 (fun k => F k ∨ W.heap.size ≤ k) v2 l2 → W.grownBy W2 v.ownBlock → Sit w0 W2 (.row v2 l2 :: T) := by
  obtain ⟨hb, F, h1, h2, h3⟩ := h
  have h1' : Kd.R (Kd.int .u8) 5 W 0 F v l := h1
  refine ⟨F, h1', fun W2 v2 l2 hr hg => ?_⟩
  have hr2 := Kd.R_bound hr
  refine Sit.turn (t := .row v l) hb h2 h3 (F' := fun k => (F k ∨ W.heap.size ≤ k) ∧ k < W2.heap.size) (t' := .row v2 l2) ?_ (fun k hk => hk) ⟨hg.os, hg.tape, hg.output, hg.size, fun i hi hn => hg.block i hi (fun e => hn (h1'.1 i e.symm))⟩
  exact Kd.R_mono hr2 (fun k hk => ⟨hk.1, hk.2.2.1⟩)
theorem Sit.nilrow {w0 W : World} {T : List Thing} (h : Sit w0 W T) : Sit w0 W (.row (.slice none 0 0) [] :: T) :=
  ⟨h.below, fun _ => False, Kd.R_nil _ _ _ _ _, fun k hk => hk.elim, h.all.mono (fun k _ h => by rcases h with h | h <;> exact h)⟩
theorem Sit.newrow {w0 W W' : World} {T : List Thing} {v : Value} {l : List Int} {ok : Nat → Prop} (h : Sit w0 W T) (hb : Below W.heap.size W W') (ho : Kd.R (Kd.int .u8) 5 W' W.heap.size ok v l) : Sit w0 W' (.row v l :: T) :=
  h.add hb (t := .row v l) (F := fun k => W.heap.size ≤ k ∧ k < W'.heap.size) (R_zero ho) (fun k hk => hk)
theorem sit_put' {w0 W : World} {T : List Thing} {q : Nat} {bs : List Int} (x : S32) {A : Option Addr} {c : Nat} (h : Sit w0 W (.out q bs :: T)) (hq : qP x) (hC : Kd.C (Kd.int .u8) w0 A x.f2.length x.f2) (hc : x.f2.length ≤ c) (hl : bs.length ≤ 549755813888) {E : Int} {B : List Int} (hE : putE x = E) (hB : putB x = B) :
    Calls Try.prog 10 #[.pointer (some ⟨q, 0, none⟩), .agg #[.int .i64 x.f0, .int .i64 x.f1, .slice A x.f2.length c]] W fun e w' => e = .returned (.int .i64 E) ∧ Sit w0 w' (.out q (bs ++ B) :: T) := by
  subst hE hB
  exact sit_put x h hq hC hc hl
theorem at_op {w : World} {A : Option Addr} {l : List S32} (h : Kd.C k32 w A l.length l) (k : Nat) (hk : k < l.length) : ∃ ad A2 c2, A = some ad ∧ (rd_T32 l k).f2.length ≤ c2 ∧ Kd.C (Kd.int .u8) w A2 (rd_T32 l k).f2.length (rd_T32 l k).f2 ∧ ∀ W, Below w.heap.size w W → W.cell? (ad.add (k * 3)) = some (.int .i64 (rd_T32 l k).f0) ∧ W.cell? ⟨(ad.add (k * 3)).block, (ad.add (k * 3)).off + 1, none⟩ = some (.int .i64 (rd_T32 l k).f1) ∧ W.cell? ⟨(ad.add (k * 3)).block, (ad.add (k * 3)).off + 2, none⟩ = some (.slice A2 (rd_T32 l k).f2.length c2) := by
  obtain ⟨ad, A2, c2, e, h1, h2, h3, h4, h5⟩ := at_T32 h (k : Int) (by omega) (by omega)
  rw [Int.toNat_natCast] at h1 h2 h3
  exact ⟨ad, A2, c2, e, h4, h5, fun W hb => ⟨pw_cell_below hb h1, pw_cell_below hb h2, pw_cell_below hb h3⟩⟩
theorem qP_of {l : List S32} (hw : ∀ z ∈ l, qT32 z) (hf : ∀ k : Nat, k < l.length → (rd_T32 l k).f2.length ≤ 5000) {k : Nat} (hk : k < l.length) : qP (rd_T32 l k) := by
  have h := hw (rd_T32 l k) (by simp [rd_T32, hk])
  have h2 := h.2.1
  simp [Lit.wf, IntKind.min, IntKind.max, IntKind.bits, IntKind.signed] at h2
  exact ⟨by omega, by omega, hf k hk⟩
set_option maxRecDepth 100000 in
set_option maxHeartbeats 32000000 in
theorem codePuts_any (A0 : Option Addr) (c0 : Nat) (l : List S32) (w : World) (hr : Kd.C k32 w A0 l.length l) (hc : l.length ≤ c0) (hw : ∀ z ∈ l, qT32 z) : Calls Try.prog 3 #[.slice A0 l.length c0] w fun e w' => e = .returned (.bool true) ∧ Below w.heap.size w w' := by
  have HR := Aside0.mk (And.intro hr (And.intro hc hw))
  have hmax := Kd.C_max hr
  clear hr hc hw
  have p1 := awake_any w
  go_enter Try.func3, Try.ntmps3
  go_wp2_with fail
  go_at_call 8
  refine p1.mono ?_
  rintro e w1 ⟨rfl, hb⟩
  have p2 := few_any A0 c0 l w1 (Kd.C_below HR.out.1 hb) HR.out.2.1
  obtain ⟨b, hbe⟩ : ∃ b, b = fewB l := ⟨_, rfl⟩
  rw [← hbe] at p2
  have HBE := Aside0.mk hbe
  have HB := Aside0.mk hb
  clear p1 hb hbe
  go_wp2_with fail
  go_at_call 9
  refine p2.mono ?_
  rintro e w2 ⟨rfl, hd⟩
  have HB2 := Aside0.mk (below_then HB.out HB.out.size hd.below)
  clear p2 hd HB
  cases b with
  | false =>
    go_wp2
    go_ret
    exact ⟨rfl, HB2.out⟩
  | true =>
    have HF := Aside0.mk (fewB_all HBE.out.symm)
    have hl40 := HF.out.1
    have S0 := Aside0.mk (((Sit.refl w).behind HB2.out).nilrow.fresh)
    go_wp2
    go_loopw [6, 7] (fun wv iv wr => ∃ (k : Nat) (A : Option Addr) (c : Nat) (bs : List Int), k ≤ l.length ∧ iv = .int .i64 k ∧ wv = .slice A bs.length c ∧ bs.length ≤ k * 5010 ∧ Aside0 (Sit w wr [.out w2.heap.size bs, .row (.slice A bs.length c) bs])) (fun _ iv _ => l.length - (intOf iv).toNat)
    case atStart => exact ⟨0, none, 0, [], by omega, rfl, rfl, by simp, S0⟩
    case round =>
      clear S0
      obtain ⟨k, A, c, bs, hk, rfl, rfl, hbs, HS⟩ := hrel
      by_cases hlt : k < l.length
      · obtain ⟨ad, A2, c2, rfl, hc2, hC2, hcells⟩ := at_op HR.out.1 k hlt
        have hq := qP_of HR.out.2.2 HF.out.2 hlt
        have HC := Aside0.mk hcells
        obtain ⟨x, hx⟩ : ∃ x, x = rd_T32 l k := ⟨_, rfl⟩
        rw [← hx] at hc2 hC2 HC hq
        clear hcells hx
        obtain ⟨b0, b1, b2⟩ := HC.out wr HS.out.below
        have HP := fun E B => sit_put' (E := E) (B := B) x HS.out hq hC2 hc2 (by omega)
        have hq0 := hq.1
        have hq1 := hq.2.1
        have hq2 := hq.2.2
        clear hq
        by_cases k0 : x.f0 = 0
        · have e0 : (x.f0 == 0) = true := beq_iff_eq.2 k0
          by_cases hneg : x.f1 < 0
          · have p := HP (1) ([]) (by unfold putE; rw [if_pos k0, if_pos hneg]) (by unfold putB; rw [if_pos k0, if_pos hneg])
            clear k0
            clear HP
            go_wp2_with fail
            go_at_call 10
            refine p.mono ?_
            rintro e w3 ⟨rfl, hs⟩
            obtain ⟨d0, d1, d2⟩ := HC.out w3 hs.below
            have HS3 := Aside0.mk hs
            clear p b0 b1 b2
            clear hs
            go_wp2
            exact ⟨⟨k + 1, A, c, bs, by omega, by go_num, rfl, by omega, ⟨by simpa using HS3.out⟩⟩, by simp [intOf]; omega⟩
          · have p := HP (0) (digs x.f1.toNat) (by unfold putE; rw [if_pos k0, if_neg hneg]) (by unfold putB; rw [if_pos k0, if_neg hneg])
            have h0 : 0 ≤ x.f1 := by omega
            have ht := digs_ten (n := x.f1.toNat) (by omega)
            obtain ⟨ds, hds⟩ : ∃ ds, ds = digs x.f1.toNat := ⟨_, rfl⟩
            have HDS := Aside0.mk hds
            rw [← hds] at p ht
            clear hds
            clear k0
            clear HP
            go_wp2_with fail
            go_at_call 10
            refine p.mono ?_
            rintro e w3 ⟨rfl, hs⟩
            obtain ⟨d0, d1, d2⟩ := HC.out w3 hs.below
            have HS3 := Aside0.mk hs
            clear p b0 b1 b2
            clear hs
            go_wp2_with fail
            go_at_call 11
            refine (rnum_any _ _ h0 hq1).mono ?_
            rintro e w4 ⟨v, rfl, hr, hb⟩
            rw [← HDS.out] at hr
            obtain ⟨A4, c4, rfl⟩ := Kd.R_slice hr
            obtain ⟨F, hF, hgrow⟩ := (HS3.out.behind hb).swap.grow
            have HG := Aside0.mk (And.intro hF (And.intro (Kd.R_reads' hr).2.2 hgrow))
            obtain ⟨R, hR⟩ : ∃ R, R = bs ++ ds := ⟨_, rfl⟩
            have hRb : R.length ≤ (k + 1) * 5010 := by rw [hR, List.length_append]; omega
            have HRE := Aside0.mk hR
            clear hR
            clear hr hb hF hgrow d0 d1 d2
            go_wp2_with ((with_reducible refine gate_builtin (b := .append) (xs := #[.tmp 62, .tmp 68]) rfl ?_); at_builtin; refine Kd.R_append_row (Value.int .u8) 0 (w0 := w4) (h1 := fun _ => rfl) 0 rfl (.tmp 62) (.tmp 68) 26 5 (.int .u8 0) 1 rfl Try.underlying26 infoE5 rfl (by decide) _ bs ds A4 ds.length c4 (fun k => F k ∨ w4.heap.size ≤ k) rfl rfl (fun k hk => .inr hk) (Kd.R_mono HG.out.1 (fun k hk => .inl hk)) HG.out.2.1 (Below.refl _ _) (Nat.zero_le _) (by omega) ?_; intro v1 w5 ho hb hg hat; rw [← HRE.out] at ho; have HT := Aside0.mk (HG.out.2.2 w5 v1 _ ho hg); obtain ⟨A5, c5, rfl⟩ := Kd.R_slice ho; clear ho hb hg hat)
            go_wp2
            exact ⟨⟨k + 1, A5, c5, R, by omega, by go_num, rfl, hRb, ⟨by have h := HT.out.swap; rw [← HRE.out] at h; exact h⟩⟩, by simp [intOf]; omega⟩
        · have e0 : (x.f0 == 0) = false := beq_eq_false_iff_ne.2 k0
          by_cases k1 : x.f0 = 1
          · have p := HP (0) (digs (zig x.f1)) (by unfold putE; rw [if_neg k0, if_pos k1]) (by unfold putB; rw [if_neg k0, if_pos k1])
            have e1 : (x.f0 == 1) = true := beq_iff_eq.2 k1
            have ht := digs_ten (zig_lt hq0 hq1)
            obtain ⟨ds, hds⟩ : ∃ ds, ds = digs (zig x.f1) := ⟨_, rfl⟩
            have HDS := Aside0.mk hds
            rw [← hds] at p ht
            clear hds
            clear k0 k1
            clear HP
            go_wp2_with fail
            go_at_call 10
            refine p.mono ?_
            rintro e w3 ⟨rfl, hs⟩
            obtain ⟨d0, d1, d2⟩ := HC.out w3 hs.below
            have HS3 := Aside0.mk hs
            clear p b0 b1 b2
            clear hs
            go_wp2_with fail
            go_at_call 12
            refine (rint_any _ _ hq0 hq1).mono ?_
            rintro e w4 ⟨v, rfl, hr, hb⟩
            rw [← HDS.out] at hr
            obtain ⟨A4, c4, rfl⟩ := Kd.R_slice hr
            obtain ⟨F, hF, hgrow⟩ := (HS3.out.behind hb).swap.grow
            have HG := Aside0.mk (And.intro hF (And.intro (Kd.R_reads' hr).2.2 hgrow))
            obtain ⟨R, hR⟩ : ∃ R, R = bs ++ ds := ⟨_, rfl⟩
            have hRb : R.length ≤ (k + 1) * 5010 := by rw [hR, List.length_append]; omega
            have HRE := Aside0.mk hR
            clear hR
            clear hr hb hF hgrow d0 d1 d2
            go_wp2_with ((with_reducible refine gate_builtin (b := .append) (xs := #[.tmp 72, .tmp 78]) rfl ?_); at_builtin; refine Kd.R_append_row (Value.int .u8) 0 (w0 := w4) (h1 := fun _ => rfl) 0 rfl (.tmp 72) (.tmp 78) 26 5 (.int .u8 0) 1 rfl Try.underlying26 infoE5 rfl (by decide) _ bs ds A4 ds.length c4 (fun k => F k ∨ w4.heap.size ≤ k) rfl rfl (fun k hk => .inr hk) (Kd.R_mono HG.out.1 (fun k hk => .inl hk)) HG.out.2.1 (Below.refl _ _) (Nat.zero_le _) (by omega) ?_; intro v1 w5 ho hb hg hat; rw [← HRE.out] at ho; have HT := Aside0.mk (HG.out.2.2 w5 v1 _ ho hg); obtain ⟨A5, c5, rfl⟩ := Kd.R_slice ho; clear ho hb hg hat)
            go_wp2
            exact ⟨⟨k + 1, A5, c5, R, by omega, by go_num, rfl, hRb, ⟨by have h := HT.out.swap; rw [← HRE.out] at h; exact h⟩⟩, by simp [intOf]; omega⟩
          · by_cases hbig : 4096 < x.f2.length
            · have e1 : (x.f0 == 1) = false := beq_eq_false_iff_ne.2 k1
              have p := HP (2) (([] : List Int)) (by unfold putE; rw [if_neg k0, if_neg k1, if_pos hbig]) (by unfold putB; rw [if_neg k0, if_neg k1, if_pos hbig])
              have ht : (([] : List Int)).length ≤ 5010 := by simp
              obtain ⟨ds, hds⟩ : ∃ ds, ds = ([] : List Int) := ⟨_, rfl⟩
              have HDS := Aside0.mk hds
              rw [← hds] at p ht
              clear hds
              clear k0 k1
              clear HP
              go_wp2_with fail
              go_at_call 10
              refine p.mono ?_
              rintro e w3 ⟨rfl, hs⟩
              obtain ⟨d0, d1, d2⟩ := HC.out w3 hs.below
              have HS3 := Aside0.mk hs
              clear p b0 b1 b2
              have pb := rbytes_any A2 c2 x.f2 w3 (Kd.C_below hC2 hs.below) (by omega)
              rw [if_pos hbig, if_pos hbig, ← HDS.out] at pb
              clear hs
              go_wp2_with fail
              go_at_call 13
              refine pb.mono ?_
              rintro e w4 ⟨v, rfl, hr, hb⟩
              obtain ⟨A4, c4, rfl⟩ := Kd.R_slice hr
              obtain ⟨F, hF, hgrow⟩ := (HS3.out.behind hb).swap.grow
              have HG := Aside0.mk (And.intro hF (And.intro (Kd.R_reads' hr).2.2 hgrow))
              obtain ⟨R, hR⟩ : ∃ R, R = bs ++ ds := ⟨_, rfl⟩
              have hRb : R.length ≤ (k + 1) * 5010 := by rw [hR, List.length_append]; omega
              have HRE := Aside0.mk hR
              clear hR
              clear pb hr hb hF hgrow d0 d1 d2
              go_wp2_with ((with_reducible refine gate_builtin (b := .append) (xs := #[.tmp 50, .tmp 51]) rfl ?_); at_builtin; refine Kd.R_append_row (Value.int .u8) 0 (w0 := w4) (h1 := fun _ => rfl) 0 rfl (.tmp 50) (.tmp 51) 26 5 (.int .u8 0) 1 rfl Try.underlying26 infoE5 rfl (by decide) _ bs ds A4 ds.length c4 (fun k => F k ∨ w4.heap.size ≤ k) rfl rfl (fun k hk => .inr hk) (Kd.R_mono HG.out.1 (fun k hk => .inl hk)) HG.out.2.1 (Below.refl _ _) (Nat.zero_le _) (by omega) ?_; intro v1 w5 ho hb hg hat; rw [← HRE.out] at ho; have HT := Aside0.mk (HG.out.2.2 w5 v1 _ ho hg); obtain ⟨A5, c5, rfl⟩ := Kd.R_slice ho; clear ho hb hg hat)
              go_wp2
              exact ⟨⟨k + 1, A5, c5, R, by omega, by go_num, rfl, hRb, ⟨by have h := HT.out.swap; rw [← HRE.out] at h; exact h⟩⟩, by simp [intOf]; omega⟩
              
            · have e1 : (x.f0 == 1) = false := beq_eq_false_iff_ne.2 k1
              have p := HP (0) (digs x.f2.length ++ x.f2) (by unfold putE; rw [if_neg k0, if_neg k1, if_neg hbig]) (by unfold putB; rw [if_neg k0, if_neg k1, if_neg hbig])
              have ht : (digs x.f2.length ++ x.f2).length ≤ 5010 := by have := digs_ten (n := x.f2.length) (by omega); rw [List.length_append]; omega
              obtain ⟨ds, hds⟩ : ∃ ds, ds = digs x.f2.length ++ x.f2 := ⟨_, rfl⟩
              have HDS := Aside0.mk hds
              rw [← hds] at p ht
              clear hds
              clear k0 k1
              clear HP
              go_wp2_with fail
              go_at_call 10
              refine p.mono ?_
              rintro e w3 ⟨rfl, hs⟩
              obtain ⟨d0, d1, d2⟩ := HC.out w3 hs.below
              have HS3 := Aside0.mk hs
              clear p b0 b1 b2
              have pb := rbytes_any A2 c2 x.f2 w3 (Kd.C_below hC2 hs.below) (by omega)
              rw [if_neg hbig, if_neg hbig, ← HDS.out] at pb
              clear hs
              go_wp2_with fail
              go_at_call 13
              refine pb.mono ?_
              rintro e w4 ⟨v, rfl, hr, hb⟩
              obtain ⟨A4, c4, rfl⟩ := Kd.R_slice hr
              obtain ⟨F, hF, hgrow⟩ := (HS3.out.behind hb).swap.grow
              have HG := Aside0.mk (And.intro hF (And.intro (Kd.R_reads' hr).2.2 hgrow))
              obtain ⟨R, hR⟩ : ∃ R, R = bs ++ ds := ⟨_, rfl⟩
              have hRb : R.length ≤ (k + 1) * 5010 := by rw [hR, List.length_append]; omega
              have HRE := Aside0.mk hR
              clear hR
              clear pb hr hb hF hgrow d0 d1 d2
              go_wp2_with ((with_reducible refine gate_builtin (b := .append) (xs := #[.tmp 50, .tmp 51]) rfl ?_); at_builtin; refine Kd.R_append_row (Value.int .u8) 0 (w0 := w4) (h1 := fun _ => rfl) 0 rfl (.tmp 50) (.tmp 51) 26 5 (.int .u8 0) 1 rfl Try.underlying26 infoE5 rfl (by decide) _ bs ds A4 ds.length c4 (fun k => F k ∨ w4.heap.size ≤ k) rfl rfl (fun k hk => .inr hk) (Kd.R_mono HG.out.1 (fun k hk => .inl hk)) HG.out.2.1 (Below.refl _ _) (Nat.zero_le _) (by omega) ?_; intro v1 w5 ho hb hg hat; rw [← HRE.out] at ho; have HT := Aside0.mk (HG.out.2.2 w5 v1 _ ho hg); obtain ⟨A5, c5, rfl⟩ := Kd.R_slice ho; clear ho hb hg hat)
              go_wp2
              exact ⟨⟨k + 1, A5, c5, R, by omega, by go_num, rfl, hRb, ⟨by have h := HT.out.swap; rw [← HRE.out] at h; exact h⟩⟩, by simp [intOf]; omega⟩
              
      · obtain rfl : k = l.length := by omega
        have p := sit_all HS.out (by omega)
        clear HS
        go_wp2_with fail
        go_at_call 15
        refine p.mono ?_
        rintro e w3 ⟨A3, c3, rfl, hc3, hs⟩
        have h3 := hs.row
        have h4 := hs.tail.tail.row
        have p2 := same_any h3.2.2 hc3 h4.2.2 h4.2.1 (by omega)
        rw [show (bs == bs) = true by simp] at p2
        have HS := Aside0.mk hs
        clear p hs h3 h4
        go_wp2_with fail
        go_at_call 14
        refine p2.mono ?_
        rintro e w4 ⟨rfl, hd⟩
        have HE := Aside0.mk (HS.out.drawn hd).below
        clear hd p2
        go_wp2
        go_ret
        exact ⟨rfl, HE.out⟩
theorem codePuts_calls (A : Option Addr) (c : Nat) (l : List S32) (w : World) (h1 : l.length ≤ maxLen) (h2 : ∀ z ∈ l, qT32 z) (h3 : Kd.C k32 w A l.length l) (h4 : l.length ≤ c) : Calls Try.prog 3 #[.slice A l.length c] w fun e w' => e = .returned (.bool true) ∧ Below w.heap.size w w' := codePuts_any A c l w h3 h4 h2
end Go.Proofs.Ytamgeophebillaa.Code
