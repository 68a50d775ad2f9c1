/- Two requests, two replies, two rows of bytes are the same or not: the plain functions that the print gives come to equality. -/
import Derived.Test.YtgdelfckhcgnhaaReqPlain
import Derived.Test.YtgdelfckhcgnhaaReqExt
namespace Go.Proofs.Ytgdelfckhcgnhaa.Code
open Go.RowKit Go.Proofs.Ytgdelfckhcgnhaa.Pa Go.Proofs.YtgdelfckhcgnhaaW.PrintWords Go.Proofs.YtgdelfckhcgnhaaW.PrintLast Go.Proofs.YtgdelfckhcgnhaaW.PrintMore
set_option linter.unusedVariables false

theorem rd_drop {l : List Int} {i : Nat} (h : i < l.length) : l.drop i = rd l i :: l.drop (i + 1) := drop_rd h
theorem same_l {a b : List Int} (hab : a.length = b.length) (hl : a.length ≤ 9223372036854775806) (d : Nat) : ∀ (k i : Nat), i + d = a.length → d < k →
    quartermasterref04_Same.l0 k a b i = some (a.drop i == b.drop i) := by
  induction d with
  | zero =>
    intro k i h hk
    obtain ⟨k, rfl⟩ : ∃ m, k = m + 1 := ⟨k - 1, by omega⟩
    simp only [quartermasterref04_Same.l0]
    rw [if_neg (by omega), List.drop_of_length_le (by omega), List.drop_of_length_le (by omega)]; rfl
  | succ d ih =>
    intro k i h hk
    obtain ⟨k, rfl⟩ : ∃ m, k = m + 1 := ⟨k - 1, by omega⟩
    simp only [quartermasterref04_Same.l0]
    rw [if_pos (by omega), if_pos (by omega), if_pos (by omega), rd_drop (l := a) (i := i) (by omega), rd_drop (l := b) (i := i) (by omega)]
    have e6 : wrap64 ((i : Int) + 1) = ((i + 1 : Nat) : Int) := by unfold wrap64; omega
    by_cases he : rd a i = rd b i
    · rw [if_pos he, e6, ih k (i + 1) (by omega) (by omega), he]; simp
    · rw [if_neg he]
      have : (rd a i == rd b i) = false := by simpa using he
      simp [this]
theorem same_f {k : Nat} {a b : List Int} (hl : a.length ≤ 9223372036854775806) (hk : a.length < k) : quartermasterref04_Same.f k a b = some (a == b) := by
  unfold quartermasterref04_Same.f
  by_cases h : a.length = b.length
  · rw [if_pos (by omega)]
    have := same_l h hl a.length k 0 (by omega) hk
    simpa using this
  · rw [if_neg (by omega)]
    have : ¬ a = b := fun e => h (by rw [e])
    simp [this]
theorem bytes_f {k : Nat} {a b : List Int} (hl : a.length ≤ 9223372036854775806) (hk : a.length < k) : quartermasterref21_Bytes.f k a b = some (a == b) := by
  unfold quartermasterref21_Bytes.f
  rw [same_f hl hk]; rfl
def eq93 (x y : S93) : Bool := x.f0 == y.f0 && (x.f1 == y.f1 && (x.f2 == y.f2))
def eqL93 : List S93 → List S93 → Bool
  | [], [] => true
  | x :: r, y :: s => eq93 x y && eqL93 r s
  | _, _ => false
theorem rd93_drop {l : List S93} {i : Nat} (h : i < l.length) : l.drop i = rd_T93 l i :: l.drop (i + 1) := by
  rw [List.drop_eq_getElem_cons h]
  unfold rd_T93
  rw [Int.toNat_natCast, List.getD_eq_getElem?_getD, List.getElem?_eq_getElem h]; rfl
def eq76 (x y : S76) : Bool := x.f0 == y.f0 && (x.f1 == y.f1 && (x.f2 == y.f2 && (x.f3 == y.f3)))
def eqL76 : List S76 → List S76 → Bool
  | [], [] => true
  | x :: r, y :: s => eq76 x y && eqL76 r s
  | _, _ => false
theorem rd76_drop {l : List S76} {i : Nat} (h : i < l.length) : l.drop i = rd_T76 l i :: l.drop (i + 1) := by
  rw [List.drop_eq_getElem_cons h]
  unfold rd_T76
  rw [Int.toNat_natCast, List.getD_eq_getElem?_getD, List.getElem?_eq_getElem h]; rfl
end Go.Proofs.Ytgdelfckhcgnhaa.Code
