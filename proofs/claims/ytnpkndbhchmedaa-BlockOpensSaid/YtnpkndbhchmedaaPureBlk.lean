/- What block's functions and the reference's come to, as plain laws over numbers and lists: what is sealed, first part. Of blocks whose bytes are from 0 to 255. -/
import Derived.Test.YtnpkndbhchmedaaPureWhole
namespace Go.Proofs.Ytnpkndbhchmedaa.Pure
open Go.RowKit Go.Proofs.Ytnpkndbhchmedaa.Pa Go.Proofs.Ytnpkndbhchmedaa.Pb Go.Proofs.Ytnpkndbhchmedaa.Ext Go.Proofs.YtnpkndbhchmedaaW.PrintWords Go.Proofs.YtnpkndbhchmedaaW.PrintLast

def okW (x : Int) : Bool := decide (0 ≤ x) && decide (x ≤ 4294967295)
/-- May numbers be a block's? -/
def numS (a0 a1 a2 a3 a4 : Int) : Bool := (decide (1 ≤ a0) && decide (a0 ≤ 4)) && [a1, a2, a3, a4].all okW
theorem numS_of {a0 a1 a2 a3 a4 : Int} (h : numS a0 a1 a2 a3 a4 = true) : 1 ≤ a0 ∧ a0 ≤ 4 ∧ (0 ≤ a1 ∧ a1 ≤ 4294967295) ∧ (0 ≤ a2 ∧ a2 ≤ 4294967295) ∧ (0 ≤ a3 ∧ a3 ≤ 4294967295) ∧ (0 ≤ a4 ∧ a4 ≤ 4294967295) := by
  simp only [numS, okW, List.all_cons, List.all_nil, Bool.and_true, Bool.and_eq_true, decide_eq_true_eq] at h
  obtain ⟨⟨h1, h2⟩, h3, h4, h5, h6⟩ := h
  exact ⟨h1, h2, h3, h4, h5, h6⟩
theorem words_l {x : List Int} (hx : x.length ≤ 1000) (d : Nat) : ∀ (k i : Nat), i + d = x.length → d < k → block_words.l0 k x x.length i = some ((x.drop i).all okW) := by
  induction d with
  | zero =>
    intro k i h hk
    obtain ⟨k, rfl⟩ : ∃ m, k = m + 1 := ⟨k - 1, by omega⟩
    simp only [block_words.l0]
    rw [if_neg (by omega), List.drop_of_length_le (by omega)]; rfl
  | succ d ih =>
    intro k i h hk
    obtain ⟨k, rfl⟩ : ∃ m, k = m + 1 := ⟨k - 1, by omega⟩
    have ew : wrap64 ((i : Int) + 1) = ((i + 1 : Nat) : Int) := by unfold wrap64; omega
    simp only [block_words.l0]
    rw [if_pos (by omega), if_pos (by omega), if_pos (by omega), rd_drop (l := x) (i := i) (by omega), List.all_cons]
    by_cases h1 : rd x i < 0
    · have : okW (rd x i) = false := by unfold okW; rw [decide_eq_false (by omega)]; rfl
      rw [if_pos h1, this]; rfl
    rw [if_neg h1]
    by_cases h2 : rd x i > 4294967295
    · have : okW (rd x i) = false := by unfold okW; rw [decide_eq_false (show ¬ rd x i ≤ 4294967295 by omega)]; simp
      rw [if_pos h2, this]; rfl
    have : okW (rd x i) = true := by unfold okW; rw [decide_eq_true (show 0 ≤ rd x i by omega), decide_eq_true (show rd x i ≤ 4294967295 by omega)]; rfl
    rw [if_neg h2, ew, ih k (i + 1) (by omega) (by omega), this]; rfl
theorem numbers_f {k : Nat} {a0 a1 a2 a3 a4 : Int} {l : List Int} (hk : 5 < k) : block_numbers.f k a0 a1 a2 a3 a4 l = some (numS a0 a1 a2 a3 a4) := by
  unfold block_numbers.f block_words.f
  have := words_l (x := [a1, a2, a3, a4]) (by simp) 4 k 0 rfl (by omega)
  unfold numS
  by_cases h1 : 1 ≤ a0
  · rw [if_pos (by omega)]
    by_cases h2 : a0 ≤ 4
    · rw [if_pos h2, decide_eq_true h1, decide_eq_true h2]
      have e : block_words.l0 k [a1, a2, a3, a4] (([a1, a2, a3, a4] : List Int).length : Int) 0 = some ([a1, a2, a3, a4].all okW) := this
      rw [e]; simp
    · rw [if_neg h2, decide_eq_false h2]; simp
  · rw [if_neg (by omega), decide_eq_false h1]; simp
theorem refnumbers_l {x : List Int} {a0 a1 a2 a3 a4 : Int} {l : List Int} (hx : x.length = 4) (d : Nat) : ∀ (k i : Nat), i + d = 4 → d < k → quartermasterref07_numbers.l0 k x i a0 a1 a2 a3 a4 l = some ((decide (1 ≤ a0) && decide (a0 ≤ 4)) && (x.drop i).all okW) := by
  induction d with
  | zero =>
    intro k i h hk
    obtain ⟨k, rfl⟩ : ∃ m, k = m + 1 := ⟨k - 1, by omega⟩
    simp only [quartermasterref07_numbers.l0]
    rw [if_neg (by omega), List.drop_of_length_le (by omega)]
    by_cases h1 : 1 ≤ a0
    · rw [if_pos (by omega), decide_eq_true h1]; simp
    · rw [if_neg (by omega), decide_eq_false h1]; simp
  | succ d ih =>
    intro k i h hk
    obtain ⟨k, rfl⟩ : ∃ m, k = m + 1 := ⟨k - 1, by omega⟩
    have ew : wrap64 ((i : Int) + 1) = ((i + 1 : Nat) : Int) := by unfold wrap64; omega
    simp only [quartermasterref07_numbers.l0]
    rw [if_pos (by omega), if_pos (by omega), if_pos (by omega), rd_drop (l := x) (i := i) (by omega), List.all_cons]
    by_cases h1 : rd x i < 0
    · have : okW (rd x i) = false := by unfold okW; rw [decide_eq_false (by omega)]; rfl
      rw [if_pos h1, this]; simp
    rw [if_neg h1]
    by_cases h2 : rd x i > 4294967295
    · have : okW (rd x i) = false := by unfold okW; rw [decide_eq_false (show ¬ rd x i ≤ 4294967295 by omega)]; simp
      rw [if_pos h2, this]; simp
    have : okW (rd x i) = true := by unfold okW; rw [decide_eq_true (show 0 ≤ rd x i by omega), decide_eq_true (show rd x i ≤ 4294967295 by omega)]; rfl
    rw [if_neg h2, ew, ih k (i + 1) (by omega) (by omega), this]; rfl
theorem refnumbers_f {k : Nat} {a0 a1 a2 a3 a4 : Int} {l : List Int} (hk : 5 < k) : quartermasterref07_numbers.f k a0 a1 a2 a3 a4 l = some (numS a0 a1 a2 a3 a4) := by
  have := refnumbers_l (x := [a1, a2, a3, a4]) (a0 := a0) (a1 := a1) (a2 := a2) (a3 := a3) (a4 := a4) (l := l) rfl 4 k 0 rfl (by omega)
  exact this

def le2 (n : Int) : List Int := [n % 256, n / 256 % 256]
theorem w01 : wrap64 (0 + 1) = 1 := by unfold wrap64; omega
theorem w12 : wrap64 (1 + 1) = 2 := by unfold wrap64; omega
theorem w23 : wrap64 (2 + 1) = 3 := by unfold wrap64; omega
theorem w34 : wrap64 (3 + 1) = 4 := by unfold wrap64; omega
theorem lay_step4 {k i : Nat} {l x : List Int} (hi : i < x.length) (hx : x.length ≤ 1000) (hl : l.length ≤ 1000) : block_lay.l0 (k + 6) l 4 x x.length i = block_lay.l0 k (l ++ le4 (rd x i)) 4 x x.length ((i + 1 : Nat) : Int) := by
  have ew : wrap64 ((i : Int) + 1) = ((i + 1 : Nat) : Int) := by unfold wrap64; omega
  simp only [block_lay.l0, block_lay.l1, w01, w12, w23, w34, ew, List.length_append, List.length_cons, List.length_nil]
  rw [if_pos (by omega), if_pos (by omega), if_pos (by omega), if_pos (by decide), if_pos (by omega), if_pos (by decide), if_pos (by omega), if_pos (by decide), if_pos (by omega), if_pos (by decide), if_pos (by omega), if_neg (by decide)]
  simp only [le4, List.append_assoc, List.cons_append, List.nil_append]
theorem lay_step2 {k i : Nat} {l x : List Int} (hi : i < x.length) (hx : x.length ≤ 1000) (hl : l.length ≤ 1000) : block_lay.l0 (k + 4) l 2 x x.length i = block_lay.l0 k (l ++ le2 (rd x i)) 2 x x.length ((i + 1 : Nat) : Int) := by
  have ew : wrap64 ((i : Int) + 1) = ((i + 1 : Nat) : Int) := by unfold wrap64; omega
  simp only [block_lay.l0, block_lay.l1, w01, w12, ew, List.length_append, List.length_cons, List.length_nil]
  rw [if_pos (by omega), if_pos (by omega), if_pos (by omega), if_pos (by decide), if_pos (by omega), if_pos (by decide), if_pos (by omega), if_neg (by decide)]
  simp only [le2, List.append_assoc, List.cons_append, List.nil_append]
theorem lay_f4 {k : Nat} {l : List Int} {a b c d : Int} (hk : 30 < k) (hl : l.length ≤ 100) : block_lay.f k l 4 [a, b, c, d] = some ((((l ++ le4 a) ++ le4 b) ++ le4 c) ++ le4 d) := by
  obtain ⟨k, rfl⟩ : ∃ m, k = m + 1 + 6 + 6 + 6 + 6 := ⟨k - 25, by omega⟩
  have h4 : ∀ s, (le4 s).length = 4 := fun _ => rfl
  have s0 := lay_step4 (k := k + 1 + 6 + 6 + 6) (i := 0) (l := l) (x := [a, b, c, d]) (by simp) (by simp) (by omega)
  have s1 := lay_step4 (k := k + 1 + 6 + 6) (i := 1) (l := l ++ le4 a) (x := [a, b, c, d]) (by simp) (by simp) (by simp [h4]; omega)
  have s2 := lay_step4 (k := k + 1 + 6) (i := 2) (l := (l ++ le4 a) ++ le4 b) (x := [a, b, c, d]) (by simp) (by simp) (by simp [h4]; omega)
  have s3 := lay_step4 (k := k + 1) (i := 3) (l := ((l ++ le4 a) ++ le4 b) ++ le4 c) (x := [a, b, c, d]) (by simp) (by simp) (by simp [h4]; omega)
  unfold block_lay.f
  refine s0.trans (s1.trans (s2.trans (s3.trans ?_)))
  simp only [block_lay.l0]
  rw [if_neg (by simp)]
  rfl
theorem lay_f2 {k : Nat} {l : List Int} {a b : Int} (hk : 30 < k) (hl : l.length ≤ 100) : block_lay.f k l 2 [a, b] = some ((l ++ le2 a) ++ le2 b) := by
  obtain ⟨k, rfl⟩ : ∃ m, k = m + 1 + 4 + 4 := ⟨k - 9, by omega⟩
  have h4 : ∀ s, (le2 s).length = 2 := fun _ => rfl
  have s0 := lay_step2 (k := k + 1 + 4) (i := 0) (l := l) (x := [a, b]) (by simp) (by simp) (by omega)
  have s1 := lay_step2 (k := k + 1) (i := 1) (l := l ++ le2 a) (x := [a, b]) (by simp) (by simp) (by simp [h4]; omega)
  unfold block_lay.f
  refine s0.trans (s1.trans ?_)
  simp only [block_lay.l0]
  rw [if_neg (by simp)]
  rfl
/-- The first bytes: what it is, and its numbers. -/
def headS (a0 a1 a2 a3 a4 n : Int) : List Int := ((((([81, 77, a0 % 256, 0] ++ le4 a1) ++ le4 a2) ++ le4 a3) ++ le4 a4) ++ le2 n) ++ le2 0
theorem headS_length (a0 a1 a2 a3 a4 n : Int) : (headS a0 a1 a2 a3 a4 n).length = 24 := rfl
theorem okB_le4' (s : Int) : okB (le4 s) = true := by
  simp only [okB, le4, List.all_cons, List.all_nil, Bool.and_true, Bool.and_eq_true, decide_eq_true_eq]; omega
theorem okB_le2 (s : Int) : okB (le2 s) = true := by
  simp only [okB, le2, List.all_cons, List.all_nil, Bool.and_true, Bool.and_eq_true, decide_eq_true_eq]; omega
theorem okB_head (a0 a1 a2 a3 a4 n : Int) : okB (headS a0 a1 a2 a3 a4 n) = true := by
  unfold headS
  refine okB_append (okB_append (okB_append (okB_append (okB_append (okB_append ?_ (okB_le4' _)) (okB_le4' _)) (okB_le4' _)) (okB_le4' _)) (okB_le2 _)) (okB_le2 _)
  simp only [okB, List.all_cons, List.all_nil, Bool.and_true, Bool.and_eq_true, decide_eq_true_eq]; omega
def sealB (a0 a1 a2 a3 a4 : Int) (l : List Int) : List Int := bodyS (headS a0 a1 a2 a3 a4 l.length) l
def sealT (a0 a1 a2 a3 a4 : Int) (l : List Int) : List Int := sealB a0 a1 a2 a3 a4 l ++ le4 (moreS 0 (sealB a0 a1 a2 a3 a4 l))
theorem okB_zeros (q : Nat) : okB (List.replicate q (0 : Int)) = true := okB_of fun x hx => by rw [List.eq_of_mem_replicate hx]; omega
theorem okB_sealB {a0 a1 a2 a3 a4 : Int} {l : List Int} (ho : okB l = true) : okB (sealB a0 a1 a2 a3 a4 l) = true := by
  unfold sealB bodyS
  exact okB_append (okB_append (okB_head _ _ _ _ _ _) ho) (okB_zeros _)
theorem sealB_length {a0 a1 a2 a3 a4 : Int} {l : List Int} (hl : l.length ≤ 228) : (sealB a0 a1 a2 a3 a4 l).length = 252 := by
  unfold sealB bodyS
  rw [List.length_append, List.length_append, headS_length, List.length_replicate]; omega
theorem sealT_length {a0 a1 a2 a3 a4 : Int} {l : List Int} (hl : l.length ≤ 228) : (sealT a0 a1 a2 a3 a4 l).length = 256 := by
  unfold sealT; rw [List.length_append, sealB_length hl]; rfl
theorem okB_sealT {a0 a1 a2 a3 a4 : Int} {l : List Int} (ho : okB l = true) : okB (sealT a0 a1 a2 a3 a4 l) = true := okB_append (okB_sealB ho) (okB_le4' _)
/-- What a block is sealed to, and the error. -/
def sealS (a0 a1 a2 a3 a4 : Int) (l : List Int) : List Int × Int := if numS a0 a1 a2 a3 a4 = true then (if (l.length : Int) > 228 then ([], 2) else (sealT a0 a1 a2 a3 a4 l, 0)) else ([], 1)
theorem seal_blk {k : Nat} {a0 a1 a2 a3 a4 : Int} {l : List Int} (hk : 40 < k) (ho : okB l = true) : block_Seal.f k a0 a1 a2 a3 a4 l = some (sealS a0 a1 a2 a3 a4 l) := by
  unfold block_Seal.f sealS
  rw [numbers_f (by omega)]
  simp only [Option.bind_some]
  by_cases hn : numS a0 a1 a2 a3 a4 = true
  · rw [if_pos hn, if_pos hn]
    by_cases hl : (l.length : Int) > 228
    · rw [if_pos hl, if_pos hl]
    · rw [if_neg hl, if_neg hl, lay_f4 (by omega) (by simp)]
      simp only [Option.bind_some]
      rw [lay_f2 (by omega) (by simp [le4])]
      simp only [Option.bind_some]
      have e : (((((([81, 77, a0 % 256, 0] ++ le4 a1) ++ le4 a2) ++ le4 a3) ++ le4 a4) ++ le2 (l.length : Int)) ++ le2 0) = headS a0 a1 a2 a3 a4 l.length := rfl
      rw [e, if_pos (headS_length _ _ _ _ _ _)]
      have := seal_f (l := sealB a0 a1 a2 a3 a4 l) (okB_sealB ho) (by rw [sealB_length (by omega)]; omega)
      unfold sealB at this
      rw [this]; rfl
  · rw [if_neg hn, if_neg hn]
end Go.Proofs.Ytnpkndbhchmedaa.Pure
