/- req: what Encode tells. No conditions beside those that each contract states. -/
import Derived.Test.YtgdelfckhcgnhaaReqF3
import Derived.Test.YtgdelfckhcgnhaaPa6
namespace Go.Proofs.Ytgdelfckhcgnhaa.Code
open Go.RowKit Go.Proofs.Ytgdelfckhcgnhaa.Pa Go.Proofs.YtgdelfckhcgnhaaW.PrintWords Go.Proofs.YtgdelfckhcgnhaaW.PrintLast Go.Proofs.YtgdelfckhcgnhaaW.PrintMore
set_option linter.unusedVariables false
set_option linter.unusedSimpArgs false

/-- What fits. -/
def In64 (x : Int) : Prop := -9223372036854775808 ≤ x ∧ x < 9223372036854775808
theorem stepW_len {p : (Bool × List Int) × List Int} (i : Nat) (h : ∀ x ∈ p.2, In64 x) : (Do.w.step p i).1.2.length ≤ p.1.2.length + 10 ∧ ∀ x ∈ (Do.w.step p i).2, In64 x := by
  have hi : In64 (p.2.getD i 0) := by
    rcases Nat.lt_or_ge i p.2.length with h1 | h1
    · exact h _ (by simp [h1])
    · rw [List.getD_eq_getElem?_getD, List.getElem?_eq_none h1]; exact ⟨by decide, by decide⟩
  refine ⟨putN_len (s := p.1) hi.2, fun x hx => ?_⟩
  rcases List.mem_or_eq_of_mem_set hx with h1 | rfl
  · exact h x h1
  · exact ⟨by show (-9223372036854775808 : Int) ≤ 0; decide, by show (0 : Int) < 9223372036854775808; decide⟩
theorem stepWW_len {p : (Bool × List Int) × List Int} (i : Nat) (h : ∀ x ∈ p.2, In64 x) : (Do.w.stepW p i).1.2.length ≤ p.1.2.length + 10 := by
  have hi : In64 (p.2.getD i 0) := by
    rcases Nat.lt_or_ge i p.2.length with h1 | h1
    · exact h _ (by simp [h1])
    · rw [List.getD_eq_getElem?_getD, List.getElem?_eq_none h1]; exact ⟨by decide, by decide⟩
  exact putI_len (s := p.1) hi.1 hi.2
theorem stepsW_len : ∀ (idx : List Nat) (s : Bool × List Int) (ns : List Int), (∀ x ∈ ns, In64 x) → (Do.w.steps idx s ns).1.2.length ≤ s.2.length + 10 * idx.length ∧ (∀ x ∈ (Do.w.steps idx s ns).2, In64 x) ∧ (Do.w.steps idx s ns).2.length = ns.length
  | [], s, ns, h => ⟨by show s.2.length ≤ _; simp, h, rfl⟩
  | i :: r, s, ns, h => by
    have h1 := stepW_len (p := (s, ns)) i h
    have h2 := stepsW_len r (Do.w.step (s, ns) i).1 (Do.w.step (s, ns) i).2 h1.2
    refine ⟨?_, h2.2.1, h2.2.2.trans (by simp [Do.step])⟩
    have h3 := h2.1
    have h4 := h1.1
    show (Do.w.steps r (Do.w.step (s, ns) i).1 (Do.w.step (s, ns) i).2).1.2.length ≤ _
    simp only [List.length_cons] at *
    omega
theorem putLines_len {s : Bool × List Int} {L : List S93} (hL : ∀ y ∈ L, Lim3 y) (hl : L.length ≤ 1000000) : (putLines s L).2.length ≤ s.2.length + 10 + 30 * L.length := by
  have := linesTo_len (s := s) hL hl L.length (Nat.le_refl _)
  rw [linesTo_all] at this
  exact this
theorem putEntries_len {s : Bool × List Int} {L : List S76} (hL : ∀ y ∈ L, Lim4 y) (hl : L.length ≤ 1000000) : (putEntries s L).2.length ≤ s.2.length + 10 + 40 * L.length := by
  have := entriesTo_len (s := s) hL hl L.length (Nat.le_refl _)
  rw [entriesTo_all] at this
  exact this
theorem fieldsW_len {k : Int} {s : Bool × List Int} {ns : List Int} {L : List S93} (hr : ∀ x ∈ ns, In64 x) (hL : ∀ y ∈ L, Lim3 y) (hl : L.length ≤ 20) (hs : s.2.length ≤ 1000) : (Do.w.fields k s ns L).1.1.2.length ≤ 100000 ∧ (Do.w.fields k s ns L).1.2.length = ns.length := by
  have h123 := stepsW_len [1, 2, 3] s ns hr
  have h3 := stepsW_len [1, 2, 3, 4, 5] s ns hr
  have h18 := stepsW_len [1, 8] s ns hr
  have h5 := stepsW_len [1, 6, 7, 5] s ns hr
  have h6 := stepsW_len [1, 6] s ns hr
  have h7 := stepsW_len [8] s ns hr
  have h8 := stepsW_len [2, 3] s ns hr
  have h9 := stepsW_len [6] s ns hr
  have hl18 := putLines_len (s := (Do.w.steps [1, 8] s ns).1) hL (by omega)
  have a1 := stepW_len 5 h123.2.1
  have a2 := stepWW_len 5 h123.2.1
  simp only [List.length_cons, List.length_nil] at *
  unfold Do.fields
  split
  · exact ⟨by show (Do.w.step (Do.w.steps [1, 2, 3] s ns) 5).1.2.length ≤ _; omega, by rw [← h123.2.2]; simp [Do.step]⟩
  split
  · exact ⟨by show (Do.w.stepW (Do.w.steps [1, 2, 3] s ns) 5).1.2.length ≤ _; omega, by rw [← h123.2.2]; simp [Do.stepW]⟩
  split
  · exact ⟨by show (Do.w.steps [1, 2, 3, 4, 5] s ns).1.2.length ≤ _; omega, h3.2.2⟩
  split
  · exact ⟨by show (putLines (Do.w.steps [1, 8] s ns).1 L).2.length ≤ _; omega, h18.2.2⟩
  split
  · exact ⟨by show (Do.w.steps [1, 6, 7, 5] s ns).1.2.length ≤ _; omega, h5.2.2⟩
  split
  · exact ⟨by show (Do.w.steps [1, 6] s ns).1.2.length ≤ _; omega, h6.2.2⟩
  split
  · exact ⟨by show (Do.w.steps [8] s ns).1.2.length ≤ _; omega, h7.2.2⟩
  split
  · exact ⟨by show (Do.w.steps [2, 3] s ns).1.2.length ≤ _; omega, h8.2.2⟩
  split
  · exact ⟨by show (Do.w.steps [6] s ns).1.2.length ≤ _; omega, h9.2.2⟩
  split
  · exact ⟨by show (Do.w.steps [8] s ns).1.2.length ≤ _; omega, h7.2.2⟩
  · exact ⟨by show s.2.length ≤ _; omega, rfl⟩
theorem Sit.rowR {w0 W : World} {T : List Thing} {v : Value} {l : List Int} (h : Sit w0 W (.row v l :: T)) : Kd.R (Kd.int .u8) 5 W w0.heap.size (fun _ => True) v l := by
  obtain ⟨hb, F, k1, k2, k3⟩ := h
  exact Kd.R_of_own (own_lift (Kd.own_of_R k1) (fun k hk => (k2 k (k1.1 k hk)).1)) (fun _ _ => trivial)
/-- What Encode tells. -/
def encS (ns : List Int) (L : List S93) : ((Bool × List Int) × List Int) × List S93 := Do.w.fields (ns.getD 0 0) (putN (false, []) (ns.getD 0 0)) ns L
def zeros (ns : List Int) : Bool := (ns.drop 1).all (· == 0)
def encP (ns : List Int) (L : List S93) : List Int × Int := if okKind (ns.getD 0 0) && !(encS ns L).1.1.1 && (zeros (encS ns L).1.2 && (encS ns L).2.length == 0) then ((encS ns L).1.1.2, 0) else ([], 1)
theorem zero_f (a0 a1 a2 a3 a4 a5 a6 a7 a8 : Int) (l : List S93) : req_zero.f a0 a1 a2 a3 a4 a5 a6 a7 a8 l = some (zeros [a0, a1, a2, a3, a4, a5, a6, a7, a8] && l.length == 0) := by
  unfold req_zero.f zeros
  have e : ((l.length : Int) == 0) = (l.length == 0) := by rw [Bool.eq_iff_iff]; simp
  simp only [List.drop_succ_cons, List.drop_zero, List.all_cons, List.all_nil, Bool.and_true]
  rw [e]
  (repeat' split) <;> simp_all

set_option maxRecDepth 100000 in
set_option maxHeartbeats 16000000 in
theorem encode_any (n0 n1 n2 n3 n4 n5 n6 n7 n8 : Int) (A : Option Addr) (c : Nat) (L : List S93) (W : World) (hC : Kd.C k93 W A L.length L) (hc : L.length ≤ c) (hr : ∀ x ∈ [n0, n1, n2, n3, n4, n5, n6, n7, n8], In64 x) (hL : ∀ y ∈ L, Lim3 y) (hl : L.length ≤ 20) :
    Calls Try.prog 11 #[.agg #[.int .i64 n0, .int .i64 n1, .int .i64 n2, .int .i64 n3, .int .i64 n4, .int .i64 n5, .int .i64 n6, .int .i64 n7, .int .i64 n8, .slice A L.length c]] W fun e w' => ∃ v0_ : Value, e = .returned (.tuple #[v0_, .int .i64 (encP [n0, n1, n2, n3, n4, n5, n6, n7, n8] L).2]) ∧ Kd.R (Kd.int .u8) 5 w' W.heap.size (fun _ => True) v0_ (encP [n0, n1, n2, n3, n4, n5, n6, n7, n8] L).1 ∧ Below W.heap.size W w' := by
  have hA := (Sit.refl W).alloc #[.int .i64 n0, .int .i64 n1, .int .i64 n2, .int .i64 n3, .int .i64 n4, .int .i64 n5, .int .i64 n6, .int .i64 n7, .int .i64 n8, .slice A L.length c] 26
  obtain ⟨W1, hW1⟩ : ∃ W1, W1 = W.alloc (.cells #[.int .i64 n0, .int .i64 n1, .int .i64 n2, .int .i64 n3, .int .i64 n4, .int .i64 n5, .int .i64 n6, .int .i64 n7, .int .i64 n8, .slice A L.length c] 26) := ⟨_, rfl⟩
  have e1 : W1.heap.size = W.heap.size + 1 := by rw [hW1]; simp
  rw [← hW1] at hA
  have hB := hA.fresh
  have hK := (hB.alloc #[.int .i64 n0] 3).swap
  have e2 : (W1.alloc (.cells #[.slice none 0 0, .bool false] 66)).heap.size = W.heap.size + 1 + 1 := by simp [e1]
  rw [e2, e1] at hK
  rw [hW1] at hK
  clear hA hB e1 e2 hW1
  have PN1 := Aside0.mk (wnumP (s := (false, [])) (i := 0) n0 hK rfl (hr n0 (by simp)).2 (by simp))
  obtain ⟨s0, hs0⟩ : ∃ s0, s0 = putN (false, []) n0 := ⟨_, rfl⟩
  rw [← hs0] at PN1
  have hlen0 : s0.2.length ≤ 1000 := by rw [hs0]; have := putN_len (s := (false, [])) (hr n0 (by simp)).2; simp only [List.length_nil] at this; omega
  obtain ⟨b, hb⟩ : ∃ b, b = okKind n0 := ⟨_, rfl⟩
  obtain ⟨P, hP⟩ : ∃ P, P = encS [n0, n1, n2, n3, n4, n5, n6, n7, n8] L := ⟨_, rfl⟩
  have hfl := fieldsW_len (k := n0) (s := s0) (ns := [n0, n1, n2, n3, n4, n5, n6, n7, n8]) hr hL hl hlen0
  have hPs : Do.w.fields n0 s0 [n0, n1, n2, n3, n4, n5, n6, n7, n8] L = P := by rw [hP, hs0]; rfl
  have PN3 := fun (W' : World) (T : List Thing) (h' : Sit W W' (.out s0.1 (W.heap.size + 1) s0.2 :: .blk W.heap.size (.cells (cs26 [n0, n1, n2, n3, n4, n5, n6, n7, n8] (.slice A L.length c)) 26 (0, 0)) :: T)) => fieldsW h' hC hc hL hl rfl hr (by omega)
  simp only [List.getD_cons_zero] at PN3
  rw [hPs] at hfl
  simp only [hPs, ← hb] at PN3
  have hE : encP [n0, n1, n2, n3, n4, n5, n6, n7, n8] L = if b && !P.1.1.1 && (zeros P.1.2 && P.2.length == 0) then (P.1.1.2, 0) else ([], 1) := by rw [hb, hP]; rfl
  rw [hE]
  clear hE hP hPs hb hs0 hlen0 hK hr hL hl
  obtain ⟨⟨⟨ob, bs⟩, ms⟩, L'⟩ := P
  obtain ⟨hbs, hms⟩ := hfl
  simp only [List.length_cons, List.length_nil] at hms hbs
  obtain ⟨m0, m1, m2, m3, m4, m5, m6, m7, m8, rfl⟩ : ∃ m0 m1 m2 m3 m4 m5 m6 m7 m8, ms = [m0, m1, m2, m3, m4, m5, m6, m7, m8] := by
    match ms, hms with
    | [m0, m1, m2, m3, m4, m5, m6, m7, m8], _ => exact ⟨_, _, _, _, _, _, _, _, _, rfl⟩
  have hz := zero_f m0 m1 m2 m3 m4 m5 m6 m7 m8 L'
  obtain ⟨z, hz2⟩ : ∃ z, z = (zeros [m0, m1, m2, m3, m4, m5, m6, m7, m8] && L'.length == 0) := ⟨_, rfl⟩
  simp only [← hz2] at hz ⊢
  have HZ := Aside0.mk hz
  have P3 := Aside0.mk PN3
  have HBS := Aside0.mk hbs
  clear hz hz2 PN3 hbs hms hC hc
  cases b <;> cases ob <;> cases z
  all_goals
    go_enter Try.func11, Try.ntmps11
    go_wp2_with (first | (go_at_call 29; (with_reducible refine PN1.out.mono ?_); rintro e' w1 ⟨rfl, hs⟩; have H1 := Aside0.mk hs; clear hs) | (go_at_call 30; (with_reducible refine (wway _ H1.out).mono ?_); rintro e' w2 ⟨rfl, hs⟩; have H2 := Aside0.mk hs.swap.tail; clear hs) | (go_at_call 24; (with_reducible refine (P3.out _ _ H2.out).mono ?_); rintro e' w3 ⟨rfl, A', c', hc', hC', hs⟩; have H3 := Aside0.mk hs; have HC := Aside0.mk hC'; have Hc := Aside0.mk hc'; obtain ⟨o1, -⟩ := sit_oddc hs; obtain ⟨y0, -⟩ := sit_cell (i := 0) (v := .int .i64 m0) hs.swap rfl; obtain ⟨y1, -⟩ := sit_cell (i := 1) (v := .int .i64 m1) hs.swap rfl; obtain ⟨y2, -⟩ := sit_cell (i := 2) (v := .int .i64 m2) hs.swap rfl; obtain ⟨y3, -⟩ := sit_cell (i := 3) (v := .int .i64 m3) hs.swap rfl; obtain ⟨y4, -⟩ := sit_cell (i := 4) (v := .int .i64 m4) hs.swap rfl; obtain ⟨y5, -⟩ := sit_cell (i := 5) (v := .int .i64 m5) hs.swap rfl; obtain ⟨y6, -⟩ := sit_cell (i := 6) (v := .int .i64 m6) hs.swap rfl; obtain ⟨y7, -⟩ := sit_cell (i := 7) (v := .int .i64 m7) hs.swap rfl; obtain ⟨y8, -⟩ := sit_cell (i := 8) (v := .int .i64 m8) hs.swap rfl; obtain ⟨y9, -⟩ := sit_cell (i := 9) (v := .slice A' L'.length c') hs.swap rfl; clear hs hC' hc') | (go_at_call 31; (with_reducible refine (req_zero.calls m0 m1 m2 m3 m4 m5 m6 m7 m8 A' c' L' _ _ HC.out Hc.out HZ.out).mono ?_); rintro e' w4 ⟨rfl, hb4⟩; have H4 := Aside0.mk (H3.out.behind hb4); clear hb4) | (go_at_call 32; (with_reducible refine (sit_all H4.out (by have := HBS.out; omega)).mono ?_); rintro e' w5 ⟨A5, c5, rfl, hc5, hs⟩; have H5 := Aside0.mk hs; clear hs))
  all_goals
    go_ret2
    first | exact ⟨_, rfl, H5.out.rowR, H5.out.below⟩ | exact ⟨_, rfl, Kd.R_nil _ _ _ _ _, H4.out.below⟩ | exact ⟨_, rfl, Kd.R_nil _ _ _ _ _, H3.out.below⟩
end Go.Proofs.Ytgdelfckhcgnhaa.Code
