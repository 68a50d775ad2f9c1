/- What crc.Whole and the reference's Whole come to: the law over numbers and lists. Of at most 4000 bytes (each from 0 to 255). -/
import Derived.Test.YtnpkndbhchmedaaPureRef
import Derived.Test.YtnpkndbhchmedaaPb1
namespace Go.Proofs.Ytnpkndbhchmedaa.Pure
open Go.RowKit Go.Proofs.Ytnpkndbhchmedaa.Pa Go.Proofs.Ytnpkndbhchmedaa.Pb Go.Proofs.Ytnpkndbhchmedaa.Ext Go.Proofs.YtnpkndbhchmedaaW.PrintWords Go.Proofs.YtnpkndbhchmedaaW.PrintLast

theorem okB_wf {l : List Int} (h : ∀ x ∈ l, (Lit.int .u8 x).wf = true) : okB l = true :=
  okB_of fun x hx => by
    have := h x hx
    simp only [Lit.wf, Bool.and_eq_true, decide_eq_true_eq] at this
    have h1 : IntKind.u8.min = 0 := by decide
    have h2 : IntKind.u8.max = 255 := by decide
    rw [h1, h2] at this
    omega
theorem okB_le4 (s : Nat) : okB (le4 s) = true := by
  simp only [okB, le4, List.all_cons, List.all_nil, Bool.and_true, Bool.and_eq_true, decide_eq_true_eq]
  omega
theorem seal_f {l : List Int} (ho : okB l = true) (hl : l.length ≤ 4000) : crc_Seal.f l = some (l ++ le4 (moreS 0 l)) := by
  unfold crc_Seal.f; rw [if_pos ⟨ho, by omega⟩]

theorem equal_l {a b : List Int} (hab : a.length = b.length) (hl : a.length ≤ 9223372036854775806) (d : Nat) : ∀ (k i : Nat), i + d = a.length → d < k →
    slices_Equal_byte_byte.l0 k a b a.length i = some (a.drop i == b.drop i) := by
  induction d with
  | zero =>
    intro k i h hk
    obtain ⟨k, rfl⟩ : ∃ m, k = m + 1 := ⟨k - 1, by omega⟩
    simp only [slices_Equal_byte_byte.l0]
    rw [if_neg (by omega), List.drop_of_length_le (by omega), List.drop_of_length_le (by omega)]; rfl
  | succ d ih =>
    intro k i h hk
    obtain ⟨k, rfl⟩ : ∃ m, k = m + 1 := ⟨k - 1, by omega⟩
    simp only [slices_Equal_byte_byte.l0]
    rw [if_pos (by omega), if_pos (by omega), if_pos (by omega), if_pos (by omega), rd_drop (l := a) (i := i) (by omega), rd_drop (l := b) (i := i) (by omega)]
    have e6 : wrap64 ((i : Int) + 1) = ((i + 1 : Nat) : Int) := by unfold wrap64; omega
    by_cases he : rd a i = rd b i
    · rw [if_pos he, e6, ih k (i + 1) (by omega) (by omega), he]; simp
    · rw [if_neg he]
      have : (rd a i == rd b i) = false := by simpa using he
      simp [this]
theorem equal_f {k : Nat} {a b : List Int} (hl : a.length ≤ 9223372036854775806) (hk : a.length < k) : slices_Equal_byte_byte.f k a b = some (a == b) := by
  unfold slices_Equal_byte_byte.f
  by_cases h : a.length = b.length
  · rw [if_pos (by omega)]
    have := equal_l h hl a.length k 0 (by omega) hk
    simpa using this
  · rw [if_neg (by omega)]
    have : ¬ a = b := fun e => h (by rw [e])
    simp [this]
/-- Is it whole? -/
def wholeS (l : List Int) : Bool := decide (4 ≤ l.length) && (l.drop (l.length - 4) == le4 (moreS 0 (l.take (l.length - 4))))
theorem four_at {k : Nat} (hk : 4 < k) (s : Int) : crc_four.f k s = some (le4 s) := by
  obtain ⟨k, rfl⟩ : ∃ m, k = m + 5 := ⟨k - 5, by omega⟩
  unfold crc_four.f
  simp only [crc_four.l0]
  simp [le4, wrap64]
theorem whole_f {k : Nat} {l : List Int} (ho : okB l = true) (hl : l.length ≤ 4000) (hk : l.length + 5 < k) : crc_Whole.f k l = some (wholeS l) := by
  unfold crc_Whole.f wholeS
  have e : wrap64 ((l.length : Int) - 4) = (l.length : Int) - 4 := by unfold wrap64; omega
  rw [e]
  by_cases h : 4 ≤ l.length
  · rw [if_pos (by omega), if_pos (by omega), if_pos (by omega)]
    have et : ((l.length : Int) - 4).toNat = l.length - 4 := by omega
    rw [et, sum_f (okB_take ho _)]
    simp only [Option.bind_some]
    rw [four_at (by omega)]
    simp only [Option.bind_some]
    rw [equal_f (by simp; omega) (by simp; omega)]
    simp [h]
  · rw [if_neg (by omega)]
    simp [h]
end Go.Proofs.Ytnpkndbhchmedaa.Pure
