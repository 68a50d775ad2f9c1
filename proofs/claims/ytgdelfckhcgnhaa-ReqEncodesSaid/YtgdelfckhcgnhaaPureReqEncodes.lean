/- The plain law of ReqEncodes. No conditions beside those that each lemma states. -/
import Derived.Test.YtgdelfckhcgnhaaPw3
import Derived.Test.YtgdelfckhcgnhaaReqSame
namespace Go.Proofs.Ytgdelfckhcgnhaa.Pure
open Go Go.RowKit Go.Proofs.Ytgdelfckhcgnhaa.Pa Go.Proofs.Ytgdelfckhcgnhaa.Pw Go.Proofs.YtgdelfckhcgnhaaW.PrintWords Go.Proofs.YtgdelfckhcgnhaaW.PrintLast Go.Proofs.Ytgdelfckhcgnhaa.Code Go.Proofs.Ytgdelfckhcgnhaa.Ext
set_option linter.unusedVariables false

theorem awake_f {k : Nat} (hk : 40 ≤ k) : quartermasterlaw21_awake.f k = some true := by
  obtain ⟨d, rfl⟩ : ∃ d, k = 40 + d := ⟨k - 40, by omega⟩
  clear hk
  induction d with
  | zero => decide +kernel
  | succ d ih => exact quartermasterlaw21_awake.mono _ _ ih
theorem wf64 {a : Int} (h : (Lit.int .i64 a).wf = true) : In64 a := by
  simp only [Lit.wf, Bool.and_eq_true, decide_eq_true_eq] at h
  have h1 : IntKind.i64.min = -9223372036854775808 := by decide
  have h2 : IntKind.i64.max = 9223372036854775807 := by decide
  rw [h1, h2] at h
  exact ⟨h.1, by omega⟩
theorem l3_of {L : List S93} (h : ∀ y ∈ L, qT93 y) : ∀ y ∈ L, L3 y := fun y hy => by
  have := h y hy
  exact ⟨wf64 this.1, wf64 this.2.1, wf64 this.2.2⟩
theorem l4_of {L : List S76} (h : ∀ y ∈ L, qT76 y) : ∀ y ∈ L, L4 y := fun y hy => by
  have := h y hy
  exact ⟨wf64 this.1, wf64 this.2.1, wf64 this.2.2.1, wf64 this.2.2.2⟩
theorem lim3B_of {L : List S93} (h : ∀ y ∈ L, L3 y) : L.all lim3B = true := by
  rw [List.all_eq_true]
  intro y hy
  have := h y hy
  simp only [lim3B, Bool.and_eq_true, in64B_iff]
  exact ⟨⟨this.1, this.2.1⟩, this.2.2⟩
theorem lim4B_of {L : List S76} (h : ∀ y ∈ L, L4 y) : L.all lim4B = true := by
  rw [List.all_eq_true]
  intro y hy
  have := h y hy
  simp only [lim4B, Bool.and_eq_true, in64B_iff]
  exact ⟨⟨⟨this.1, this.2.1⟩, this.2.2.1⟩, this.2.2.2⟩
theorem enc_f {n0 n1 n2 n3 n4 n5 n6 n7 n8 : Int} {L : List S93} (hn : ∀ x ∈ [n0, n1, n2, n3, n4, n5, n6, n7, n8], In64 x) (hL : ∀ y ∈ L, L3 y) (hl : L.length ≤ 20) : req_Encode.f n0 n1 n2 n3 n4 n5 n6 n7 n8 L = some (encP [n0, n1, n2, n3, n4, n5, n6, n7, n8] L) := by
  unfold req_Encode.f
  refine if_pos ?_
  simp only [okReq, Bool.and_eq_true, decide_eq_true_eq]
  refine ⟨?_, lim3B_of hL, hl⟩
  rw [List.all_eq_true]
  exact fun x hx => (in64B_iff x).2 (hn x hx)
theorem ans_f {c a b : Int} {L : List S93} {K : List S76} (hr : (⟨c, a, b, L, K⟩ : Rep).In) (hl : L.length ≤ 20) (hk : K.length ≤ 20) : req_Answer.f c a b L K = some (ansP ⟨c, a, b, L, K⟩) := by
  unfold req_Answer.f
  refine if_pos ?_
  simp only [okRep, Bool.and_eq_true, decide_eq_true_eq]
  refine ⟨⟨?_, lim3B_of hr.L⟩, lim4B_of hr.K, hl, hk⟩
  rw [List.all_eq_true]
  intro x hx
  rw [in64B_iff]
  simp only [List.mem_cons, List.not_mem_nil, or_false] at hx
  rcases hx with rfl | rfl | rfl
  · exact hr.c
  · exact hr.a
  · exact hr.b
theorem enc_len {n0 n1 n2 n3 n4 n5 n6 n7 n8 : Int} {L : List S93} (hn : ∀ x ∈ [n0, n1, n2, n3, n4, n5, n6, n7, n8], In64 x) (hL : ∀ y ∈ L, L3 y) (hl : L.length ≤ 20) : (encP [n0, n1, n2, n3, n4, n5, n6, n7, n8] L).1.length ≤ 100000 := by
  unfold encP
  split
  · have h0 := putN_len (s := (false, [])) (hn n0 (by simp)).2
    refine (fieldsW_len (k := n0) (s := putN (false, []) n0) hn (fun y hy => ⟨(hL y hy).1.2, (hL y hy).2.1.2, (hL y hy).2.2.2⟩) hl ?_).1
    simp only [List.length_nil] at h0
    omega
  · simp
theorem ans_len {r : Rep} (hr : r.In) (hl : r.L.length ≤ 20) (hk : r.K.length ≤ 20) : (ansP r).1.length ≤ 100000 := by
  unfold ansP
  split
  · simp
  · exact ansS_len ⟨hr.c, hr.a, hr.b, fun y hy => ⟨(hr.L y hy).1.2, (hr.L y hy).2.1.2, (hr.L y hy).2.2.2⟩, fun y hy => ⟨(hr.K y hy).1.2, (hr.K y hy).2.1.2, (hr.K y hy).2.2.1.2, (hr.K y hy).2.2.2.1, (hr.K y hy).2.2.2.2⟩, hl, hk⟩
theorem may_f {n0 n1 n2 n3 n4 n5 n6 n7 n8 : Int} {L : List S93} (hn : ∀ x ∈ [n0, n1, n2, n3, n4, n5, n6, n7, n8], In64 x) (hL : ∀ y ∈ L, L3 y) (hl : L.length ≤ 20) : req_May.f n0 n1 n2 n3 n4 n5 n6 n7 n8 L = some ((encP [n0, n1, n2, n3, n4, n5, n6, n7, n8] L).2 == 0) := by
  unfold req_May.f
  rw [enc_f hn hL hl]; rfl

/-! #### Letters -/
theorem fs_drop {fs : ByteArray} {i : Nat} (h : i < fs.size) : ∃ b : UInt8, fs.data.toList.drop i = b :: fs.data.toList.drop (i + 1) ∧ bt fs (i : Int) = (b.toNat : Int) := by
  have h2 : i < fs.data.toList.length := by simpa using h
  refine ⟨fs.data.toList[i], List.drop_eq_getElem_cons h2, ?_⟩
  unfold bt
  rw [dif_pos (show (i : Int).toNat < fs.size by omega)]
  rfl
def hasB (fs : List UInt8) (c : Int) : Bool := fs.any (fun x => (x.toNat : Int) == c || (c == 113 && (x.toNat : Int) == 81))
theorem has_l {fs : ByteArray} (c : Int) (hs : fs.size ≤ 1000) (d : Nat) : ∀ (k i : Nat), i + d = fs.size → d < k → quartermasterref21_has.l0 k fs c (i : Int) = some (hasB (fs.data.toList.drop i) c) := by
  induction d with
  | zero =>
    intro k i h hk
    obtain ⟨k, rfl⟩ : ∃ m, k = m + 1 := ⟨k - 1, by omega⟩
    rw [quartermasterref21_has.l0, if_neg (by omega), List.drop_of_length_le (by simp; omega)]; rfl
  | succ d ih =>
    intro k i h hk
    obtain ⟨k, rfl⟩ : ∃ m, k = m + 1 := ⟨k - 1, by omega⟩
    obtain ⟨b, e1, e2⟩ := fs_drop (fs := fs) (i := i) (by omega)
    have e6 : wrap64 ((i : Int) + 1) = ((i + 1 : Nat) : Int) := by unfold wrap64; omega
    rw [quartermasterref21_has.l0, if_pos (by omega), if_pos (by omega), e6, ih k (i + 1) (by omega) (by omega), e2, e1]
    show _ = some (((b.toNat : Int) == c || (c == 113 && (b.toNat : Int) == 81)) || hasB _ c)
    by_cases h1 : (b.toNat : Int) = c
    · rw [if_pos h1]; simp [h1]
    · rw [if_neg h1, show ((b.toNat : Int) == c) = false by simpa using h1]
      by_cases h2 : c = 113
      · rw [if_pos h2]
        by_cases h3 : (b.toNat : Int) = 81
        · rw [if_pos h3, h3, h2]; rfl
        · rw [if_neg h3, show ((b.toNat : Int) == 81) = false by simpa using h3]; simp
      · rw [if_neg h2, show (c == 113) = false by simpa using h2]; simp
theorem has_f {k : Nat} {fs : ByteArray} (c : Int) (hs : fs.size ≤ 1000) (hk : 1000 < k) : quartermasterref21_has.f k fs c = some (hasB fs.data.toList c) := by
  have := has_l (fs := fs) c hs fs.size k 0 (by omega) (by omega)
  rw [List.drop_zero] at this
  exact this
def lineB (y : S93) : Bool := decide (0 ≤ y.f0) && (decide (0 ≤ y.f1) && decide (0 ≤ y.f2))
def linesB (L : List S93) : Bool := decide (L.length ≤ 4) && L.all lineB
theorem rlines_l {L : List S93} (hl : L.length ≤ 1000) (d : Nat) : ∀ (k i : Nat), i + d = L.length → d < k → quartermasterref21_lines.l0 k L (i : Int) = some ((L.drop i).all lineB) := by
  induction d with
  | zero =>
    intro k i h hk
    obtain ⟨k, rfl⟩ : ∃ m, k = m + 1 := ⟨k - 1, by omega⟩
    rw [quartermasterref21_lines.l0, if_neg (by omega), List.drop_of_length_le (by omega)]; rfl
  | succ d ih =>
    intro k i h hk
    obtain ⟨k, rfl⟩ : ∃ m, k = m + 1 := ⟨k - 1, by omega⟩
    have e6 : wrap64 ((i : Int) + 1) = ((i + 1 : Nat) : Int) := by unfold wrap64; omega
    rw [quartermasterref21_lines.l0, if_pos (by omega), if_pos (by omega), e6, ih k (i + 1) (by omega) (by omega), rd93_drop (l := L) (i := i) (by omega), List.all_cons]
    unfold lineB
    by_cases h0 : (rd_T93 L i).f0 < 0
    · rw [if_pos h0, show decide (0 ≤ (rd_T93 L i).f0) = false from decide_eq_false (by omega)]; rfl
    by_cases h1 : (rd_T93 L i).f1 < 0
    · rw [if_neg h0, if_pos h1, show decide (0 ≤ (rd_T93 L i).f1) = false from decide_eq_false (by omega)]; simp
    by_cases h2 : (rd_T93 L i).f2 < 0
    · rw [if_neg h0, if_neg h1, if_pos h2, show decide (0 ≤ (rd_T93 L i).f2) = false from decide_eq_false (by omega)]; simp
    rw [if_neg h0, if_neg h1, if_neg h2, decide_eq_true (by omega : 0 ≤ (rd_T93 L i).f0), decide_eq_true (by omega : 0 ≤ (rd_T93 L i).f1), decide_eq_true (by omega : 0 ≤ (rd_T93 L i).f2)]; rfl
theorem rlines_f {k : Nat} {L : List S93} (hl : L.length ≤ 1000) (hk : 1000 < k) : quartermasterref21_lines.f k L = some (linesB L) := by
  unfold quartermasterref21_lines.f linesB
  by_cases h : (L.length : Int) > 4
  · rw [if_pos h, decide_eq_false (by omega)]; rfl
  · rw [if_neg h, decide_eq_true (by omega), Bool.true_and]
    have := rlines_l hl L.length k 0 (by omega) (by omega)
    rw [List.drop_zero] at this
    exact this
def fldI (c : Int) : Nat := if c = 105 then 1 else if c = 115 then 2 else if c = 108 then 3 else if c = 116 then 4 else if c = 113 then 5 else if c = 81 then 5 else if c = 114 then 6 else if c = 107 then 7 else 8
theorem fld_f (k : Nat) (a0 a1 a2 a3 a4 a5 a6 a7 a8 c : Int) (L : List S93) : quartermasterref21_field.f (k + 1) a0 a1 a2 a3 a4 a5 a6 a7 a8 L c = some ([a0, a1, a2, a3, a4, a5, a6, a7, a8].getD (fldI c) 0) := by
  unfold quartermasterref21_field.f fldI
  by_cases h1 : c = 105
  · rw [if_pos h1, if_pos h1]; rfl
  rw [if_neg h1, if_neg h1]
  by_cases h2 : c = 115
  · rw [if_pos h2, if_pos h2]; rfl
  rw [if_neg h2, if_neg h2]
  by_cases h3 : c = 108
  · rw [if_pos h3, if_pos h3]; rfl
  rw [if_neg h3, if_neg h3]
  by_cases h4 : c = 116
  · rw [if_pos h4, if_pos h4]; rfl
  rw [if_neg h4, if_neg h4]
  by_cases h5 : c = 113
  · rw [if_pos h5, if_pos h5, h5]; rfl
  rw [if_neg h5, if_neg h5, quartermasterref21_field.j0]
  by_cases h6 : c = 81
  · rw [if_pos h6, h6]; rfl
  rw [if_neg h6, show (c == 81) = false by simpa using h6, if_neg (by decide)]
  by_cases h7 : c = 114
  · rw [if_pos h7, if_pos h7]; rfl
  rw [if_neg h7, if_neg h7]
  by_cases h8 : c = 107
  · rw [if_pos h8, if_pos h8]; rfl
  rw [if_neg h8, if_neg h8]; rfl

/-! #### May -/
def okF (own free : Bool) (n : Int) : Bool := if own then (free || decide (0 ≤ n)) else n == 0
def mayB (fs : List UInt8) (ns : List Int) (L : List S93) : Bool :=
  okF (hasB fs 105) false (ns.getD 1 0) && (okF (hasB fs 115) false (ns.getD 2 0) && (okF (hasB fs 108) false (ns.getD 3 0) && (okF (hasB fs 116) false (ns.getD 4 0) && (okF (hasB fs 113) (hasB fs 81) (ns.getD 5 0) && (okF (hasB fs 114) false (ns.getD 6 0) && (okF (hasB fs 107) false (ns.getD 7 0) && (okF (hasB fs 110) false (ns.getD 8 0) && (if hasB fs 76 then linesB L else L.length == 0))))))))
theorem may_step {k : Nat} (hk : 1001 < k) {fs : ByteArray} (hs : fs.size ≤ 1000) {a0 a1 a2 a3 a4 a5 a6 a7 a8 : Int} {L : List S93} {i c j : Int} {R : Bool} (hi : i < 8) (h0 : 0 ≤ i) (hj : j = i + 1) (hc : bt (⟨#[105, 115, 108, 116, 113, 114, 107, 110]⟩ : ByteArray) i = c)
    (hR : quartermasterref21_May.l0 k fs (⟨#[105, 115, 108, 116, 113, 114, 107, 110]⟩ : ByteArray) j a0 a1 a2 a3 a4 a5 a6 a7 a8 L = some R) :
    quartermasterref21_May.l0 (k + 1) fs (⟨#[105, 115, 108, 116, 113, 114, 107, 110]⟩ : ByteArray) i a0 a1 a2 a3 a4 a5 a6 a7 a8 L = some (okF (hasB fs.data.toList c) (if c = 113 then hasB fs.data.toList 81 else false) ([a0, a1, a2, a3, a4, a5, a6, a7, a8].getD (fldI c) 0) && R) := by
  obtain ⟨k, rfl⟩ : ∃ m, k = m + 1 := ⟨k - 1, by omega⟩
  have e6 : wrap64 (i + 1) = j := by unfold wrap64; omega
  rw [quartermasterref21_May.l0, if_pos (by show i < 8; exact hi), if_pos h0, hc, fld_f, Option.bind_some, has_f c hs (by omega), Option.bind_some, has_f 81 hs (by omega), e6, hR]
  generalize [a0, a1, a2, a3, a4, a5, a6, a7, a8].getD (fldI c) 0 = n
  generalize hasB fs.data.toList c = own
  generalize hasB fs.data.toList 81 = free
  unfold okF
  by_cases h1 : c = 113
  · rw [if_pos h1, if_pos h1, Option.bind_some]
    by_cases hn : n = 0
    · subst hn; cases own <;> cases free <;> simp
    · by_cases hp : n < 0
      · have : ¬ 0 ≤ n := by omega
        cases own <;> cases free <;> simp [hn, hp, this]
      · have : 0 ≤ n := by omega
        cases own <;> cases free <;> simp [hn, hp, this]
  · rw [if_neg h1, if_neg h1]
    by_cases hn : n = 0
    · subst hn; cases own <;> cases free <;> simp
    · by_cases hp : n < 0
      · have : ¬ 0 ≤ n := by omega
        cases own <;> cases free <;> simp [hn, hp, this]
      · have : 0 ≤ n := by omega
        cases own <;> cases free <;> simp [hn, hp, this]
theorem may_end {k : Nat} (hk : 1001 < k) {fs : ByteArray} (hs : fs.size ≤ 1000) {a0 a1 a2 a3 a4 a5 a6 a7 a8 : Int} {L : List S93} (hl : L.length ≤ 1000) : quartermasterref21_May.l0 (k + 1) fs (⟨#[105, 115, 108, 116, 113, 114, 107, 110]⟩ : ByteArray) 8 a0 a1 a2 a3 a4 a5 a6 a7 a8 L = some (if hasB fs.data.toList 76 then linesB L else L.length == 0) := by
  rw [quartermasterref21_May.l0, if_neg (by decide), has_f 76 hs (by omega), Option.bind_some, rlines_f hl (by omega), Option.bind_some]
  have e : ((L.length : Int) == 0) = (L.length == 0) := by rw [Bool.eq_iff_iff]; simp
  rw [e]
  split <;> rfl
theorem rmay_f {k : Nat} (hk : 1100 < k) {a0 a1 a2 a3 a4 a5 a6 a7 a8 : Int} {L : List S93} (hl : L.length ≤ 1000) {fs : ByteArray} (hf : quartermasterref21_form.f a0 = some fs) (hs : fs.size ≤ 1000) : quartermasterref21_May.f k a0 a1 a2 a3 a4 a5 a6 a7 a8 L = some (if fs.toList = ([63] : List UInt8) then false else mayB fs.data.toList [a0, a1, a2, a3, a4, a5, a6, a7, a8] L) := by
  obtain ⟨k, rfl⟩ : ∃ m, k = m + 20 := ⟨k - 20, by omega⟩
  unfold quartermasterref21_May.f
  rw [hf, Option.bind_some]
  by_cases hq : fs.toList = ([63] : List UInt8)
  · rw [if_pos hq, if_pos hq]
  rw [if_neg hq, if_neg hq]
  have h8 := may_end (k := k + 11) (by omega) hs (L := L) hl (a0 := a0) (a1 := a1) (a2 := a2) (a3 := a3) (a4 := a4) (a5 := a5) (a6 := a6) (a7 := a7) (a8 := a8)
  have h7 := may_step (k := k + 12) (by omega) hs (i := 7) (c := 110) (by decide) (by decide) rfl rfl h8
  have h6 := may_step (k := k + 13) (by omega) hs (i := 6) (c := 107) (by decide) (by decide) rfl rfl h7
  have h5 := may_step (k := k + 14) (by omega) hs (i := 5) (c := 114) (by decide) (by decide) rfl rfl h6
  have h4 := may_step (k := k + 15) (by omega) hs (i := 4) (c := 113) (by decide) (by decide) rfl rfl h5
  have h3 := may_step (k := k + 16) (by omega) hs (i := 3) (c := 116) (by decide) (by decide) rfl rfl h4
  have h2 := may_step (k := k + 17) (by omega) hs (i := 2) (c := 108) (by decide) (by decide) rfl rfl h3
  have h1 := may_step (k := k + 18) (by omega) hs (i := 1) (c := 115) (by decide) (by decide) rfl rfl h2
  have h0 := may_step (k := k + 19) (by omega) hs (i := 0) (c := 105) (by decide) (by decide) rfl rfl h1
  exact h0
/-! #### What the forms are -/
def formL (k : Int) : List UInt8 := if k = 1 then [105, 115, 108, 113] else if k = 2 then [105, 115, 108, 81] else if k = 3 then [105, 115, 108, 116, 113] else if k = 4 then [105, 110, 76] else if k = 5 then [105, 114, 107, 113] else if k = 6 then [105, 114] else if k = 7 then [110] else if k = 8 then [115, 108] else if k = 9 then [114] else if k = 10 then [110] else [63]
theorem formL_out {k : Int} (h : ¬ (1 ≤ k ∧ k ≤ 10)) : formL k = [63] := by
  unfold formL
  rw [if_neg (by omega), if_neg (by omega), if_neg (by omega), if_neg (by omega), if_neg (by omega), if_neg (by omega), if_neg (by omega), if_neg (by omega), if_neg (by omega), if_neg (by omega)]
theorem form_f (k : Int) : quartermasterref21_form.f k = some ⟨(formL k).toArray⟩ := by
  unfold quartermasterref21_form.f
  rw [Option.bind_some]
  by_cases h : 1 ≤ k ∧ k ≤ 10
  · rcases (by omega : k = 1 ∨ k = 2 ∨ k = 3 ∨ k = 4 ∨ k = 5 ∨ k = 6 ∨ k = 7 ∨ k = 8 ∨ k = 9 ∨ k = 10) with h | h | h | h | h | h | h | h | h | h
    all_goals
      subst h
      rfl
  · rw [formL_out h]
    by_cases h1 : k < 1
    · rw [if_pos h1]
    · rw [if_neg h1, if_pos (by omega)]
def mayQ (ns : List Int) (L : List S93) : Bool := okKind (ns.getD 0 0) && mayB (formL (ns.getD 0 0)) ns L
theorem formL_len (k : Int) : (formL k).length ≤ 5 := by unfold formL; (repeat' split) <;> decide
theorem rmay_q {k : Nat} (hk : 1100 < k) {a0 a1 a2 a3 a4 a5 a6 a7 a8 : Int} {L : List S93} (hl : L.length ≤ 1000) : quartermasterref21_May.f k a0 a1 a2 a3 a4 a5 a6 a7 a8 L = some (mayQ [a0, a1, a2, a3, a4, a5, a6, a7, a8] L) := by
  have hlen := formL_len a0
  rw [rmay_f hk hl (form_f a0) (by show (formL a0).toArray.size ≤ 1000; rw [List.size_toArray]; omega)]
  unfold mayQ
  rw [List.getD_cons_zero]
  by_cases h : 1 ≤ a0 ∧ a0 ≤ 10
  · rw [show okKind a0 = true from decide_eq_true h, Bool.true_and, if_neg]
    rcases (by omega : a0 = 1 ∨ a0 = 2 ∨ a0 = 3 ∨ a0 = 4 ∨ a0 = 5 ∨ a0 = 6 ∨ a0 = 7 ∨ a0 = 8 ∨ a0 = 9 ∨ a0 = 10) with h | h | h | h | h | h | h | h | h | h
    all_goals
      subst h
      decide +kernel
  · rw [show okKind a0 = false from decide_eq_false h, Bool.false_and, if_pos]
    rw [formL_out h]
    decide +kernel

/-! #### The bytes -/
def lay1 (y : S93) : List Int := digs y.f0.toNat ++ (digs y.f1.toNat ++ digs y.f2.toNat)
def laidB (L : List S93) : List Int := digs L.length ++ L.flatMap lay1
theorem digs_le {n : Int} (h : In64 n) : (digs n.toNat).length ≤ 10 := digs_ten (by have := h.2; omega)
theorem zig_le {n : Int} (h : In64 n) : (digs (zig n)).length ≤ 10 := digs_ten (by have := h.1; have := h.2; unfold zig; split <;> omega)
theorem num_f {n : Int} (h0 : 0 ≤ n) (h : In64 n) : quartermasterref05_Num.f n = some (digs n.toNat) := if_pos ⟨h0, h.2⟩
theorem int_f {n : Int} (h : In64 n) : quartermasterref05_Int.f n = some (digs (zig n)) := if_pos h
theorem rd93_mem {L : List S93} {i : Nat} (h : i < L.length) : rd_T93 L i ∈ L := by
  have := rd93_drop h
  exact List.mem_of_mem_drop (this ▸ List.mem_cons_self)
theorem rd76_mem {L : List S76} {i : Nat} (h : i < L.length) : rd_T76 L i ∈ L := by
  have := rd76_drop h
  exact List.mem_of_mem_drop (this ▸ List.mem_cons_self)
theorem line_of {y : S93} (h : lineB y = true) : 0 ≤ y.f0 ∧ 0 ≤ y.f1 ∧ 0 ≤ y.f2 := by
  unfold lineB at h
  simpa using h
theorem laid_l {L : List S93} (hL : ∀ y ∈ L, L3 y) (hp : L.all lineB = true) (hl : L.length ≤ 1000) (d : Nat) : ∀ (k i : Nat) (x : List Int), i + d = L.length → d < k → x.length + 30 * d ≤ 1000000000 → quartermasterref21_laid.l0 k L x (i : Int) = some (x ++ (L.drop i).flatMap lay1) := by
  induction d with
  | zero =>
    intro k i x h hk hx
    obtain ⟨k, rfl⟩ : ∃ m, k = m + 1 := ⟨k - 1, by omega⟩
    rw [quartermasterref21_laid.l0, if_neg (by omega), List.drop_of_length_le (by omega)]; simp
  | succ d ih =>
    intro k i x h hk hx
    obtain ⟨k, rfl⟩ : ∃ m, k = m + 1 := ⟨k - 1, by omega⟩
    have e6 : wrap64 ((i : Int) + 1) = ((i + 1 : Nat) : Int) := by unfold wrap64; omega
    have hm := rd93_mem (L := L) (i := i) (by omega)
    obtain ⟨p0, p1, p2⟩ := line_of (List.all_eq_true.1 hp _ hm)
    obtain ⟨q0, q1, q2⟩ := hL _ hm
    have l0 := digs_le q0
    have l1 := digs_le q1
    have l2 := digs_le q2
    rw [quartermasterref21_laid.l0, if_pos (by omega), if_pos (by omega), num_f p0 q0, Option.bind_some, if_pos (by omega), Option.bind_some, num_f p1 q1, Option.bind_some, if_pos (by rw [List.length_append]; omega), Option.bind_some, num_f p2 q2, Option.bind_some, if_pos (by simp only [List.length_append]; omega), e6]
    rw [ih k (i + 1) _ (by omega) (by omega) (by simp only [List.length_append]; omega), rd93_drop (l := L) (i := i) (by omega), List.flatMap_cons]
    unfold lay1
    simp only [List.append_assoc]
theorem laid_f {k : Nat} {L : List S93} (hL : ∀ y ∈ L, L3 y) (hp : L.all lineB = true) (hl : L.length ≤ 1000) (hk : 1000 < k) : quartermasterref21_laid.f k L = some (laidB L) := by
  unfold quartermasterref21_laid.f laidB
  have hd := digs_ten (n := L.length) (by omega)
  rw [num_f (by omega) ⟨by omega, by omega⟩, Option.bind_some, Int.toNat_natCast]
  have := laid_l hL hp hl L.length k 0 (digs L.length) (by omega) (by omega) (by omega)
  rw [List.drop_zero] at this
  exact this
theorem laidB_len {L : List S93} (hL : ∀ y ∈ L, L3 y) (hl : L.length ≤ 1000) : (laidB L).length ≤ 10 + 30 * L.length := by
  unfold laidB
  have hd := digs_ten (n := L.length) (by omega)
  have : ∀ M : List S93, (∀ y ∈ M, L3 y) → (M.flatMap lay1).length ≤ 30 * M.length := fun M => by
    induction M with
    | nil => intro _; simp
    | cons y r ih =>
      intro h
      have h1 := ih (fun z hz => h z (List.mem_cons_of_mem _ hz))
      obtain ⟨q0, q1, q2⟩ := h y (List.mem_cons_self ..)
      have l0 := digs_le q0
      have l1 := digs_le q1
      have l2 := digs_le q2
      have e : (lay1 y).length ≤ 30 := by
        unfold lay1
        simp only [List.length_append]
        omega
      rw [List.flatMap_cons, List.length_append, List.length_cons]
      omega
  have := this L hL
  rw [List.length_append]
  omega
def letB (ns : List Int) (L : List S93) (b : UInt8) : List Int := if (b.toNat : Int) = 76 then laidB L else if (b.toNat : Int) = 81 then digs (zig (ns.getD 5 0)) else digs (ns.getD (fldI (b.toNat : Int)) 0).toNat
def letOk (ns : List Int) (L : List S93) (b : UInt8) : Bool := if (b.toNat : Int) = 76 then linesB L else if (b.toNat : Int) = 81 then true else decide (0 ≤ ns.getD (fldI (b.toNat : Int)) 0)
theorem renc_l {fs : ByteArray} {a0 a1 a2 a3 a4 a5 a6 a7 a8 : Int} {L : List S93} (hn : ∀ x ∈ [a0, a1, a2, a3, a4, a5, a6, a7, a8], In64 x) (hL : ∀ y ∈ L, L3 y) (hf : fs.data.toList.all (letOk [a0, a1, a2, a3, a4, a5, a6, a7, a8] L) = true) (hs : fs.size ≤ 1000) (d : Nat) : ∀ (k i : Nat) (x : List Int), i + d = fs.size → d + 1100 < k → x.length + 200 * d ≤ 1000000000 →
    quartermasterref21_Encode.l0 k x fs (i : Int) a0 a1 a2 a3 a4 a5 a6 a7 a8 L = some (x ++ (fs.data.toList.drop i).flatMap (letB [a0, a1, a2, a3, a4, a5, a6, a7, a8] L), 0) := by
  induction d with
  | zero =>
    intro k i x h hk hx
    obtain ⟨k, rfl⟩ : ∃ m, k = m + 1 := ⟨k - 1, by omega⟩
    rw [quartermasterref21_Encode.l0, if_neg (by omega), List.drop_of_length_le (by simp; omega)]; simp
  | succ d ih =>
    intro k i x h hk hx
    obtain ⟨k, rfl⟩ : ∃ m, k = m + 2 := ⟨k - 2, by omega⟩
    obtain ⟨b, e1, e2⟩ := fs_drop (fs := fs) (i := i) (by omega)
    have hb : letOk [a0, a1, a2, a3, a4, a5, a6, a7, a8] L b = true := List.all_eq_true.1 hf b (List.mem_of_mem_drop (e1 ▸ List.mem_cons_self))
    have e6 : wrap64 ((i : Int) + 1) = ((i + 1 : Nat) : Int) := by unfold wrap64; omega
    rw [show k + 2 = (k + 1) + 1 from rfl, quartermasterref21_Encode.l0, if_pos (by omega), if_pos (by omega), e2, e6, e1, List.flatMap_cons]
    unfold letOk at hb
    by_cases h1 : (b.toNat : Int) = 76
    · rw [if_pos h1] at hb
      unfold linesB at hb
      simp only [Bool.and_eq_true, decide_eq_true_eq] at hb
      have hlen := laidB_len hL (by omega)
      rw [if_pos h1, laid_f hL hb.2 (by omega) (by omega), Option.bind_some, if_pos (by omega), ih (k + 1) (i + 1) _ (by omega) (by omega) (by rw [List.length_append]; omega), show letB [a0, a1, a2, a3, a4, a5, a6, a7, a8] L b = laidB L from if_pos h1, List.append_assoc]
    · rw [if_neg h1] at hb ⊢
      by_cases h2 : (b.toNat : Int) = 81
      · have hz := zig_le (n := a5) (hn a5 (by simp))
        rw [if_pos h2, int_f (hn a5 (by simp)), Option.bind_some, if_pos (by omega), ih (k + 1) (i + 1) _ (by omega) (by omega) (by rw [List.length_append]; omega), show letB [a0, a1, a2, a3, a4, a5, a6, a7, a8] L b = digs (zig a5) from (if_neg h1).trans (if_pos h2), List.append_assoc]
      · rw [if_neg h2] at hb ⊢
        have hb2 : 0 ≤ [a0, a1, a2, a3, a4, a5, a6, a7, a8].getD (fldI (b.toNat : Int)) 0 := of_decide_eq_true hb
        have h64 := In64.getD hn (fldI (b.toNat : Int))
        have hlen := digs_le h64
        rw [fld_f, Option.bind_some, num_f hb2 h64, Option.bind_some, if_pos (by omega), ih (k + 1) (i + 1) _ (by omega) (by omega) (by rw [List.length_append]; omega), show letB [a0, a1, a2, a3, a4, a5, a6, a7, a8] L b = _ from (if_neg h1).trans (if_neg h2), List.append_assoc]
def encL (ns : List Int) (L : List S93) : List Int := digs (ns.getD 0 0).toNat ++ (formL (ns.getD 0 0)).flatMap (letB ns L)
theorem renc_f {k : Nat} (hk : 1200 < k) {a0 a1 a2 a3 a4 a5 a6 a7 a8 : Int} {L : List S93} (hn : ∀ x ∈ [a0, a1, a2, a3, a4, a5, a6, a7, a8], In64 x) (hL : ∀ y ∈ L, L3 y) (hl : L.length ≤ 20) (hq : mayQ [a0, a1, a2, a3, a4, a5, a6, a7, a8] L = true → (formL a0).all (letOk [a0, a1, a2, a3, a4, a5, a6, a7, a8] L) = true) :
    quartermasterref21_Encode.f k a0 a1 a2 a3 a4 a5 a6 a7 a8 L = some (if mayQ [a0, a1, a2, a3, a4, a5, a6, a7, a8] L then (encL [a0, a1, a2, a3, a4, a5, a6, a7, a8] L, 0) else ([], 1)) := by
  unfold quartermasterref21_Encode.f
  rw [rmay_q (by omega) (by omega), Option.bind_some]
  by_cases h : mayQ [a0, a1, a2, a3, a4, a5, a6, a7, a8] L = true
  · rw [if_pos h, if_pos h]
    have hk0 : 1 ≤ a0 ∧ a0 ≤ 10 := by
      unfold mayQ at h
      rw [Bool.and_eq_true, List.getD_cons_zero] at h
      exact of_decide_eq_true h.1
    have hlen := formL_len a0
    have hd := digs_le (hn a0 (by simp))
    rw [num_f (by omega) (hn a0 (by simp)), Option.bind_some, form_f, Option.bind_some]
    have hsz : (⟨(formL a0).toArray⟩ : ByteArray).size = (formL a0).length := by show (formL a0).toArray.size = _; rw [List.size_toArray]
    have hp := renc_l (fs := ⟨(formL a0).toArray⟩) hn hL (hq h) (by omega) (formL a0).length k 0 (digs a0.toNat) (by omega) (by omega) (by omega)
    rw [List.drop_zero] at hp
    exact hp
  · rw [if_neg h, if_neg h]

/-! #### What is written -/
theorem putLine_flag (s : Bool × List Int) (y : S93) : (putLine s y).1 = (!(lineB y) || s.1) ∧ (lineB y = true → (putLine s y).2 = s.2 ++ lay1 y) := by
  unfold putLine putN lineB lay1
  by_cases h0 : y.f0 < 0
  · have : ¬ 0 ≤ y.f0 := by omega
    simp [h0, this]
  by_cases h1 : y.f1 < 0
  · have : ¬ 0 ≤ y.f1 := by omega
    simp [h1, this]
  by_cases h2 : y.f2 < 0
  · have : ¬ 0 ≤ y.f2 := by omega
    simp [h2, this]
  have a0 : 0 ≤ y.f0 := by omega
  have a1 : 0 ≤ y.f1 := by omega
  have a2 : 0 ≤ y.f2 := by omega
  simp [h0, h1, h2, a0, a1, a2]
theorem foldLine_flag : ∀ (L : List S93) (s : Bool × List Int), (L.foldl putLine s).1 = (!(L.all lineB) || s.1) ∧ (L.all lineB = true → (L.foldl putLine s).2 = s.2 ++ L.flatMap lay1)
  | [], s => ⟨by simp, fun _ => by simp⟩
  | y :: r, s => by
    have h1 := putLine_flag s y
    have h2 := foldLine_flag r (putLine s y)
    rw [List.foldl_cons, List.all_cons]
    refine ⟨?_, fun h => ?_⟩
    · rw [h2.1, h1.1]; cases lineB y <;> cases r.all lineB <;> simp
    · rw [Bool.and_eq_true] at h
      rw [h2.2 h.2, h1.2 h.1, List.flatMap_cons, List.append_assoc]
theorem putLines_flag (s : Bool × List Int) (L : List S93) : (putLines s L).1 = (!(linesB L) || s.1) ∧ (linesB L = true → (putLines s L).2 = s.2 ++ laidB L) := by
  have h := foldLine_flag L (putN (s.1 || decide (4 < L.length), s.2) (L.length : Int))
  have hp : putN (s.1 || decide (4 < L.length), s.2) (L.length : Int) = (s.1 || decide (4 < L.length), s.2 ++ digs L.length) := by
    unfold putN
    rw [if_neg (by omega), decide_eq_false (by omega), Bool.false_or, Int.toNat_natCast]
  rw [hp] at h
  unfold putLines linesB laidB
  rw [hp]
  refine ⟨?_, fun hl => ?_⟩
  · rw [h.1]
    by_cases h4 : L.length ≤ 4
    · rw [decide_eq_true h4, decide_eq_false (by omega)]; simp
    · rw [decide_eq_false h4, decide_eq_true (by omega)]; simp
  · rw [Bool.and_eq_true] at hl
    rw [h.2 hl.2, List.append_assoc]
def flagO : List FOp → List Int → List S93 → Bool
  | [], _, _ => false
  | .n i :: o, ns, L => decide (ns.getD i 0 < 0) || flagO o (ns.set i 0) L
  | .w i :: o, ns, L => flagO o (ns.set i 0) L
  | .l :: o, ns, L => !(linesB L) || flagO o ns []
def bytesO : List FOp → List Int → List S93 → List Int
  | [], _, _ => []
  | .n i :: o, ns, L => digs (ns.getD i 0).toNat ++ bytesO o (ns.set i 0) L
  | .w i :: o, ns, L => digs (zig (ns.getD i 0)) ++ bytesO o (ns.set i 0) L
  | .l :: o, ns, L => laidB L ++ bytesO o ns []
def leftO : List FOp → List Int → List S93 → List Int × List S93
  | [], ns, L => (ns, L)
  | .n i :: o, ns, L => leftO o (ns.set i 0) L
  | .w i :: o, ns, L => leftO o (ns.set i 0) L
  | .l :: o, ns, L => leftO o ns []
theorem opsW_flag : ∀ (o : List FOp) (s : Bool × List Int) (ns : List Int) (L : List S93), (Do.w.ops o ((s, ns), L)).1.1.1 = (flagO o ns L || s.1) ∧ (flagO o ns L = false → (Do.w.ops o ((s, ns), L)).1.1.2 = s.2 ++ bytesO o ns L) ∧ (Do.w.ops o ((s, ns), L)).1.2 = (leftO o ns L).1 ∧ (Do.w.ops o ((s, ns), L)).2 = (leftO o ns L).2
  | [], s, ns, L => ⟨by simp [Do.ops, flagO], fun _ => by simp [Do.ops, bytesO], rfl, rfl⟩
  | .n i :: o, s, ns, L => by
    have ih := opsW_flag o (putN s (ns.getD i 0)) (ns.set i 0) L
    have hp : (putN s (ns.getD i 0)).1 = (decide (ns.getD i 0 < 0) || s.1) := rfl
    have ef : flagO (.n i :: o) ns L = (decide (ns.getD i 0 < 0) || flagO o (ns.set i 0) L) := rfl
    have eb : bytesO (.n i :: o) ns L = digs (ns.getD i 0).toNat ++ bytesO o (ns.set i 0) L := rfl
    rw [ef, eb]
    refine ⟨ih.1.trans ?_, fun h => ?_, ih.2.2⟩
    · rw [hp]; cases flagO o (ns.set i 0) L <;> simp
    · simp only [Bool.or_eq_false_iff, decide_eq_false_iff_not] at h
      refine (ih.2.1 h.2).trans ?_
      have e2 : (putN s (ns.getD i 0)).2 = s.2 ++ digs (ns.getD i 0).toNat := if_neg h.1
      rw [e2, List.append_assoc]
  | .w i :: o, s, ns, L => by
    have ih := opsW_flag o (putI s (ns.getD i 0)) (ns.set i 0) L
    have ef : flagO (.w i :: o) ns L = flagO o (ns.set i 0) L := rfl
    have eb : bytesO (.w i :: o) ns L = digs (zig (ns.getD i 0)) ++ bytesO o (ns.set i 0) L := rfl
    rw [ef, eb]
    refine ⟨ih.1, fun h => ?_, ih.2.2⟩
    refine (ih.2.1 h).trans ?_
    have e2 : (putI s (ns.getD i 0)).2 = s.2 ++ digs (zig (ns.getD i 0)) := rfl
    rw [e2, List.append_assoc]
  | .l :: o, s, ns, L => by
    have ih := opsW_flag o (putLines s L) ns []
    have hp := putLines_flag s L
    have ef : flagO (.l :: o) ns L = (!(linesB L) || flagO o ns []) := rfl
    have eb : bytesO (.l :: o) ns L = laidB L ++ bytesO o ns [] := rfl
    rw [ef, eb]
    refine ⟨ih.1.trans ?_, fun h => ?_, ih.2.2⟩
    · rw [hp.1]; cases flagO o ns [] <;> cases linesB L <;> simp
    · simp only [Bool.or_eq_false_iff, Bool.not_eq_false'] at h
      refine (ih.2.1 h.2).trans ?_
      rw [hp.2 h.1, List.append_assoc]
theorem enc_is {a0 a1 a2 a3 a4 a5 a6 a7 a8 : Int} {L : List S93} : encP [a0, a1, a2, a3, a4, a5, a6, a7, a8] L = (if mayQ [a0, a1, a2, a3, a4, a5, a6, a7, a8] L then (encL [a0, a1, a2, a3, a4, a5, a6, a7, a8] L, 0) else ([], 1)) ∧ (mayQ [a0, a1, a2, a3, a4, a5, a6, a7, a8] L = true → (formL a0).all (letOk [a0, a1, a2, a3, a4, a5, a6, a7, a8] L) = true) := by
  by_cases hk : 1 ≤ a0 ∧ a0 ≤ 10
  · have hs0 : putN (false, []) a0 = (false, digs a0.toNat) := by
      unfold putN
      rw [if_neg (by omega), decide_eq_false (by omega)]; rfl
    have hS : encS [a0, a1, a2, a3, a4, a5, a6, a7, a8] L = Do.w.ops (opsOf a0) (((false, digs a0.toNat), [a0, a1, a2, a3, a4, a5, a6, a7, a8]), L) := by
      unfold encS
      rw [fields_ops, List.getD_cons_zero, hs0]
    obtain ⟨o1, o2, o3, o4⟩ := opsW_flag (opsOf a0) (false, digs a0.toNat) [a0, a1, a2, a3, a4, a5, a6, a7, a8] L
    rw [← hS] at o1 o2 o3 o4
    have key : (!(flagO (opsOf a0) [a0, a1, a2, a3, a4, a5, a6, a7, a8] L || false) && (zeros (leftO (opsOf a0) [a0, a1, a2, a3, a4, a5, a6, a7, a8] L).1 && (leftO (opsOf a0) [a0, a1, a2, a3, a4, a5, a6, a7, a8] L).2.length == 0)) = mayB (formL a0) [a0, a1, a2, a3, a4, a5, a6, a7, a8] L ∧ bytesO (opsOf a0) [a0, a1, a2, a3, a4, a5, a6, a7, a8] L = (formL a0).flatMap (letB [a0, a1, a2, a3, a4, a5, a6, a7, a8] L) ∧ (mayB (formL a0) [a0, a1, a2, a3, a4, a5, a6, a7, a8] L = true → (formL a0).all (letOk [a0, a1, a2, a3, a4, a5, a6, a7, a8] L) = true) := by
      clear hs0 hS o1 o2 o3 o4
      rcases (by omega : a0 = 1 ∨ a0 = 2 ∨ a0 = 3 ∨ a0 = 4 ∨ a0 = 5 ∨ a0 = 6 ∨ a0 = 7 ∨ a0 = 8 ∨ a0 = 9 ∨ a0 = 10) with h | h | h | h | h | h | h | h | h | h
      all_goals
        subst h
        refine ⟨?_, ?_, ?_⟩
        · rw [Bool.eq_iff_iff]
          simp [Code.opsOf, flagO, leftO, zeros, mayB, formL, hasB, okF]
          try grind
        · simp [Code.opsOf, bytesO, formL, letB, fldI]
        · simp [mayB, formL, hasB, okF, letOk, fldI]
          try grind
    obtain ⟨k1, k2, k3⟩ := key
    have hQ : mayQ [a0, a1, a2, a3, a4, a5, a6, a7, a8] L = mayB (formL a0) [a0, a1, a2, a3, a4, a5, a6, a7, a8] L := by
      unfold mayQ
      rw [List.getD_cons_zero, show okKind a0 = true from decide_eq_true hk, Bool.true_and]
    rw [hQ]
    refine ⟨?_, k3⟩
    unfold encP
    rw [List.getD_cons_zero, show okKind a0 = true from decide_eq_true hk, Bool.true_and, o1, o3, o4, k1]
    by_cases h : mayB (formL a0) [a0, a1, a2, a3, a4, a5, a6, a7, a8] L = true
    · rw [if_pos h, if_pos h]
      have hfl : flagO (opsOf a0) [a0, a1, a2, a3, a4, a5, a6, a7, a8] L = false := by
        have h2 := k1.trans h
        rw [Bool.and_eq_true] at h2
        have h3 := h2.1
        simpa using h3
      rw [o2 hfl, k2]
      rfl
    · rw [if_neg h, if_neg h]
  · have hK : okKind a0 = false := decide_eq_false hk
    have hQ : mayQ [a0, a1, a2, a3, a4, a5, a6, a7, a8] L = false := by
      unfold mayQ
      rw [List.getD_cons_zero, hK, Bool.false_and]
    rw [hQ]
    refine ⟨?_, fun h => by cases h⟩
    unfold encP
    rw [List.getD_cons_zero, hK]
    rfl

/-! #### Replies -/
def lay4 (y : S76) : List Int := digs y.f0.toNat ++ (digs y.f1.toNat ++ (digs y.f2.toNat ++ digs (zig y.f3)))
def entB (y : S76) : Bool := decide (0 ≤ y.f0) && (decide (0 ≤ y.f1) && decide (0 ≤ y.f2))
def ansQ (r : Rep) : Bool := (decide (0 ≤ r.c) && decide (r.c ≤ 9)) && (linesB r.L && (decide (r.K.length ≤ 8) && r.K.all entB))
def ansL (r : Rep) : List Int := digs r.c.toNat ++ digs (zig r.a) ++ digs (zig r.b) ++ laidB r.L ++ digs r.K.length ++ r.K.flatMap lay4
theorem ranswer_l {c a b : Int} {L : List S93} {K : List S76} (hK : ∀ y ∈ K, L4 y) (hk : K.length ≤ 1000) (d : Nat) : ∀ (k i : Nat) (x : List Int), i + d = K.length → 2 * d < k → x.length + 40 * d ≤ 1000000000 →
    quartermasterref21_Answer.l0 k x (i : Int) c a b L K = some (if (K.drop i).all entB then (x ++ (K.drop i).flatMap lay4, 0) else ([], 1)) := by
  induction d with
  | zero =>
    intro k i x h hk hx
    obtain ⟨k, rfl⟩ : ∃ m, k = m + 1 := ⟨k - 1, by omega⟩
    rw [quartermasterref21_Answer.l0, if_neg (by omega), List.drop_of_length_le (by omega)]; simp
  | succ d ih =>
    intro k i x h hk hx
    obtain ⟨k, rfl⟩ : ∃ m, k = m + 2 := ⟨k - 2, by omega⟩
    have e6 : wrap64 ((i : Int) + 1) = ((i + 1 : Nat) : Int) := by unfold wrap64; omega
    have hm := rd76_mem (L := K) (i := i) (by omega)
    obtain ⟨q0, q1, q2, q3⟩ := hK _ hm
    have l0 := digs_le q0
    have l1 := digs_le q1
    have l2 := digs_le q2
    have l3 := zig_le q3
    rw [show k + 2 = (k + 1) + 1 from rfl, quartermasterref21_Answer.l0, if_pos (by omega), if_pos (by omega), rd76_drop (l := K) (i := i) (by omega), List.all_cons, List.flatMap_cons]
    have hbad : ∀ z, entB (rd_T76 K i) = false → quartermasterref21_Answer.j2 (k + 1) x (i : Int) true c a b L K z (rd_T76 K i).f1 (rd_T76 K i).f2 (rd_T76 K i).f3 = some (if (entB (rd_T76 K i) && (K.drop (i + 1)).all entB) = true then (x ++ (lay4 (rd_T76 K i) ++ (K.drop (i + 1)).flatMap lay4), 0) else ([], 1)) := fun z hz => by
      rw [quartermasterref21_Answer.j2, if_pos rfl, hz]; rfl
    by_cases h0 : (rd_T76 K i).f0 < 0
    · rw [if_pos h0]
      exact hbad _ (by unfold entB; rw [decide_eq_false (by omega)]; rfl)
    rw [if_neg h0]
    by_cases h1 : (rd_T76 K i).f1 < 0
    · rw [if_pos h1]
      exact hbad _ (by unfold entB; rw [decide_eq_false (show ¬ 0 ≤ (rd_T76 K i).f1 by omega)]; simp)
    rw [if_neg h1]
    by_cases h2 : (rd_T76 K i).f2 < 0
    · rw [decide_eq_true h2]
      exact hbad _ (by unfold entB; rw [decide_eq_false (show ¬ 0 ≤ (rd_T76 K i).f2 by omega)]; simp)
    rw [decide_eq_false h2]
    have he : entB (rd_T76 K i) = true := by
      unfold entB
      rw [decide_eq_true (by omega : 0 ≤ (rd_T76 K i).f0), decide_eq_true (by omega : 0 ≤ (rd_T76 K i).f1), decide_eq_true (by omega : 0 ≤ (rd_T76 K i).f2)]; rfl
    rw [he, Bool.true_and, quartermasterref21_Answer.j2, if_neg (by decide), num_f (by omega) q0, Option.bind_some, if_pos (by omega), Option.bind_some, num_f (by omega) q1, Option.bind_some, if_pos (by rw [List.length_append]; omega), Option.bind_some, num_f (by omega) q2, Option.bind_some, if_pos (by simp only [List.length_append]; omega), Option.bind_some, int_f q3, Option.bind_some, if_pos (by simp only [List.length_append]; omega), e6]
    rw [ih k (i + 1) _ (by omega) (by omega) (by simp only [List.length_append]; omega)]
    have e9 : lay4 (rd_T76 K i) = digs (rd_T76 K i).f0.toNat ++ (digs (rd_T76 K i).f1.toNat ++ (digs (rd_T76 K i).f2.toNat ++ digs (zig (rd_T76 K i).f3))) := rfl
    rw [e9]
    simp only [List.append_assoc]
theorem ranswer_f {k : Nat} (hk : 1200 < k) {c a b : Int} {L : List S93} {K : List S76} (hr : (⟨c, a, b, L, K⟩ : Rep).In) (hl : L.length ≤ 20) (hkk : K.length ≤ 20) : quartermasterref21_Answer.f k c a b L K = some (if ansQ ⟨c, a, b, L, K⟩ then (ansL ⟨c, a, b, L, K⟩, 0) else ([], 1)) := by
  obtain ⟨k, rfl⟩ : ∃ m, k = m + 1 := ⟨k - 1, by omega⟩
  have hbad : ansQ ⟨c, a, b, L, K⟩ = false → quartermasterref21_Answer.j0 (k + 1) true c a b L K = some (if ansQ ⟨c, a, b, L, K⟩ then (ansL ⟨c, a, b, L, K⟩, 0) else ([], 1)) := fun h => by
    rw [quartermasterref21_Answer.j0, if_pos rfl, h]; rfl
  unfold quartermasterref21_Answer.f
  rw [rlines_f (by omega) (by omega), Option.bind_some]
  by_cases h1 : c < 0
  · rw [if_pos h1]
    exact hbad (by unfold ansQ; rw [decide_eq_false (show ¬ 0 ≤ c by omega)]; rfl)
  rw [if_neg h1]
  by_cases h2 : c > 9
  · rw [if_pos h2]
    exact hbad (by unfold ansQ; rw [decide_eq_false (show ¬ c ≤ 9 by omega), Bool.and_false]; rfl)
  rw [if_neg h2]
  by_cases h3 : linesB L = true
  case neg =>
    rw [if_neg h3]
    exact hbad (by unfold ansQ; rw [show linesB L = false by simpa using h3]; simp)
  rw [if_pos h3]
  by_cases h4 : (K.length : Int) > 8
  · rw [decide_eq_true h4]
    exact hbad (by unfold ansQ; rw [decide_eq_false (show ¬ K.length ≤ 8 by omega)]; simp)
  rw [decide_eq_false h4]
  have hQ : ansQ ⟨c, a, b, L, K⟩ = K.all entB := by
    unfold ansQ
    rw [decide_eq_true (show 0 ≤ c by omega), decide_eq_true (show c ≤ 9 by omega), h3, decide_eq_true (show K.length ≤ 8 by omega)]
    simp
  have hp : L.all lineB = true := by unfold linesB at h3; rw [Bool.and_eq_true] at h3; exact h3.2
  have d0 := digs_le hr.c
  have d1 := zig_le hr.a
  have d2 := zig_le hr.b
  have d3 := laidB_len hr.L (by simp only; omega)
  have d4 := digs_ten (n := K.length) (by omega)
  simp only at d0 d1 d2 d3
  rw [hQ, quartermasterref21_Answer.j0, if_neg (by decide), num_f (n := c) (by omega) hr.c, Option.bind_some, int_f (n := a) hr.a, Option.bind_some, if_pos (by omega), Option.bind_some, int_f (n := b) hr.b, Option.bind_some, if_pos (by simp only [List.length_append]; omega), Option.bind_some, laid_f hr.L hp (by simp only; omega) (by omega), Option.bind_some, if_pos (by simp only [List.length_append]; omega), Option.bind_some, num_f (by omega) ⟨by omega, by omega⟩, Option.bind_some, Int.toNat_natCast, if_pos (by simp only [List.length_append]; omega)]
  have := ranswer_l (c := c) (a := a) (b := b) (L := L) hr.K (by simp only; omega) K.length k 0 (digs c.toNat ++ digs (zig a) ++ digs (zig b) ++ laidB L ++ digs K.length) (by simp) (by omega) (by simp only [List.length_append]; omega)
  rw [List.drop_zero] at this
  exact this
theorem putEntry_flag (s : Bool × List Int) (y : S76) : (putEntry s y).1 = (!(entB y) || s.1) ∧ (entB y = true → (putEntry s y).2 = s.2 ++ lay4 y) := by
  unfold putEntry putI putN entB lay4
  by_cases h0 : y.f0 < 0
  · have : ¬ 0 ≤ y.f0 := by omega
    simp [h0, this]
  by_cases h1 : y.f1 < 0
  · have : ¬ 0 ≤ y.f1 := by omega
    simp [h1, this]
  by_cases h2 : y.f2 < 0
  · have : ¬ 0 ≤ y.f2 := by omega
    simp [h2, this]
  have a0 : 0 ≤ y.f0 := by omega
  have a1 : 0 ≤ y.f1 := by omega
  have a2 : 0 ≤ y.f2 := by omega
  simp [h0, h1, h2, a0, a1, a2]
theorem foldEntry_flag : ∀ (L : List S76) (s : Bool × List Int), (L.foldl putEntry s).1 = (!(L.all entB) || s.1) ∧ (L.all entB = true → (L.foldl putEntry s).2 = s.2 ++ L.flatMap lay4)
  | [], s => ⟨by simp, fun _ => by simp⟩
  | y :: r, s => by
    have h1 := putEntry_flag s y
    have h2 := foldEntry_flag r (putEntry s y)
    rw [List.foldl_cons, List.all_cons]
    refine ⟨?_, fun h => ?_⟩
    · rw [h2.1, h1.1]; cases entB y <;> cases r.all entB <;> simp
    · rw [Bool.and_eq_true] at h
      rw [h2.2 h.2, h1.2 h.1, List.flatMap_cons, List.append_assoc]
theorem putEntries_flag (s : Bool × List Int) (K : List S76) : (putEntries s K).1 = (!(decide (K.length ≤ 8) && K.all entB) || s.1) ∧ ((decide (K.length ≤ 8) && K.all entB) = true → (putEntries s K).2 = s.2 ++ (digs K.length ++ K.flatMap lay4)) := by
  have h := foldEntry_flag K (putN (s.1 || decide (8 < K.length), s.2) (K.length : Int))
  have hp : putN (s.1 || decide (8 < K.length), s.2) (K.length : Int) = (s.1 || decide (8 < K.length), s.2 ++ digs K.length) := by
    unfold putN
    rw [if_neg (by omega), decide_eq_false (by omega), Bool.false_or, Int.toNat_natCast]
  rw [hp] at h
  unfold putEntries
  rw [hp]
  refine ⟨?_, fun hl => ?_⟩
  · rw [h.1]
    by_cases h4 : K.length ≤ 8
    · rw [decide_eq_true h4, decide_eq_false (by omega)]; simp
    · rw [decide_eq_false h4, decide_eq_true (by omega)]; simp
  · rw [Bool.and_eq_true] at hl
    rw [h.2 hl.2, List.append_assoc]
theorem ans_is (r : Rep) : ansP r = if ansQ r then (ansL r, 0) else ([], 1) := by
  obtain ⟨c, a, b, L, K⟩ := r
  have h1 := putEntries_flag (putLines (putI (putI (putN (decide (10 ≤ c), []) c) a) b) L) K
  have h2 := putLines_flag (putI (putI (putN (decide (10 ≤ c), []) c) a) b) L
  have hS : (ansS ⟨c, a, b, L, K⟩).1 = putEntries (putLines (putI (putI (putN (decide (10 ≤ c), []) c) a) b) L) K := rfl
  have hf : (putI (putI (putN (decide (10 ≤ c), []) c) a) b).1 = (decide (c < 0) || decide (10 ≤ c)) := rfl
  have hflag : (ansS ⟨c, a, b, L, K⟩).1.1 = !(ansQ ⟨c, a, b, L, K⟩) := by
    rw [hS, h1.1, h2.1, hf]
    unfold ansQ
    simp only
    have e1 : decide (c < 0) = !decide (0 ≤ c) := by by_cases h : c < 0 <;> simp [h, Int.not_le] <;> omega
    have e2 : decide (10 ≤ c) = !decide (c ≤ 9) := by by_cases h : c ≤ 9 <;> simp [h] <;> omega
    rw [e1, e2]
    cases decide (0 ≤ c) <;> cases decide (c ≤ 9) <;> cases linesB L <;> cases (decide (K.length ≤ 8) && K.all entB) <;> rfl
  unfold ansP
  rw [hflag]
  by_cases hq : ansQ ⟨c, a, b, L, K⟩ = true
  · rw [if_pos hq, hq, if_neg (by decide)]
    congr 1
    unfold ansQ at hq
    simp only [Bool.and_eq_true, decide_eq_true_eq] at hq
    obtain ⟨⟨q1, q2⟩, q3, q4, q5⟩ := hq
    rw [hS, h1.2 (by simp only [Bool.and_eq_true, decide_eq_true_eq]; exact ⟨q4, q5⟩), h2.2 q3]
    have e0 : (putN (decide (10 ≤ c), []) c).2 = digs c.toNat := by unfold putN; rw [if_neg (by omega)]; rfl
    show ((putN (decide (10 ≤ c), []) c).2 ++ digs (zig a) ++ digs (zig b)) ++ laidB L ++ (digs K.length ++ K.flatMap lay4) = ansL _
    rw [e0]
    unfold ansL
    simp only [List.append_assoc]
  · rw [if_neg hq, show ansQ ⟨c, a, b, L, K⟩ = false by simpa using hq, if_pos (by rfl)]
theorem ReqEncodes : quartermasterlaw21_ReqEncodes.Pure := by
  intro n0 n1 n2 n3 n4 n5 n6 n7 n8 L c a b M K hw0 hw1 hw2 hw3 hw4 hw5 hw6 hw7 hw8 _ hq h1 h2 h3 _ hq2 _ hq3
  have hn : ∀ x ∈ [n0, n1, n2, n3, n4, n5, n6, n7, n8], In64 x := by
    intro x hx
    simp only [List.mem_cons, List.not_mem_nil, or_false] at hx
    rcases hx with rfl | rfl | rfl | rfl | rfl | rfl | rfl | rfl | rfl <;> exact wf64 (by assumption)
  have hL := l3_of hq
  obtain ⟨k, hk⟩ : ∃ k, k = 200000 := ⟨_, rfl⟩
  refine ⟨k + 1, ?_⟩
  have hyes : quartermasterlaw21_ReqEncodes.j0 (k + 1) true true n0 n1 n2 n3 n4 n5 n6 n7 n8 L c a b M K = some true := by rw [quartermasterlaw21_ReqEncodes.j0]; rfl
  unfold quartermasterlaw21_ReqEncodes.f
  rw [awake_f (by omega), Option.bind_some, if_pos rfl]
  by_cases hl : (L.length : Int) > 20
  · rw [if_pos hl]; exact hyes
  rw [if_neg hl]
  by_cases hm : (M.length : Int) > 20
  · rw [if_pos hm]; exact hyes
  rw [if_neg hm]
  by_cases hK : (K.length : Int) > 20
  · rw [decide_eq_true hK]; exact hyes
  rw [decide_eq_false hK]
  have hr : (⟨c, a, b, M, K⟩ : Rep).In := ⟨wf64 h1, wf64 h2, wf64 h3, l3_of hq2, l4_of hq3, by simp only; omega, by simp only; omega⟩
  have hE := enc_is (a0 := n0) (a1 := n1) (a2 := n2) (a3 := n3) (a4 := n4) (a5 := n5) (a6 := n6) (a7 := n7) (a8 := n8) (L := L)
  have hlen1 := enc_len hn hL (by omega)
  have hlen2 := ans_len hr (by simp only; omega) (by simp only; omega)
  rw [quartermasterlaw21_ReqEncodes.j0, if_neg (by decide), enc_f hn hL (by omega), Option.bind_some, renc_f (by omega) hn hL (by omega) hE.2, Option.bind_some, ← hE.1, bytes_f (by omega) (by omega), Option.bind_some, ans_f hr (by omega) (by omega), Option.bind_some, ranswer_f (by omega) hr (by omega) (by omega), Option.bind_some, ← ans_is, bytes_f (by omega) (by omega), Option.bind_some, beq_self_eq_true, beq_self_eq_true, if_pos rfl, if_pos rfl, if_pos rfl, if_pos rfl, may_f hn hL (by omega), Option.bind_some, rmay_q (by omega) (by omega), Option.bind_some, hE.1]
  cases mayQ [n0, n1, n2, n3, n4, n5, n6, n7, n8] L <;> rfl
end Go.Proofs.Ytgdelfckhcgnhaa.Pure
