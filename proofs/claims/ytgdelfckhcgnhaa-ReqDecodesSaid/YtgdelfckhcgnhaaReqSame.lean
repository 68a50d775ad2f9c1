/- Two requests, two replies, two rows of bytes are the same or not: the plain functions that the print gives come to equality. -/
import Derived.Test.YtgdelfckhcgnhaaReqPlain
import Derived.Test.YtgdelfckhcgnhaaReqExt
namespace Go.Proofs.Ytgdelfckhcgnhaa.Code
open Go.RowKit Go.Proofs.Ytgdelfckhcgnhaa.Pa Go.Proofs.YtgdelfckhcgnhaaW.PrintWords Go.Proofs.YtgdelfckhcgnhaaW.PrintLast Go.Proofs.YtgdelfckhcgnhaaW.PrintMore
set_option linter.unusedVariables false

def eq93 (x y : S93) : Bool := x.f0 == y.f0 && (x.f1 == y.f1 && (x.f2 == y.f2))
theorem eq93_iff {x y : S93} : eq93 x y = true ↔ x = y := by
  unfold eq93
  cases x; cases y
  simp only [Bool.and_eq_true, beq_iff_eq, S93.mk.injEq]
def eqL93 : List S93 → List S93 → Bool
  | [], [] => true
  | x :: r, y :: s => eq93 x y && eqL93 r s
  | _, _ => false
theorem eqL93_iff : ∀ {a b : List S93}, eqL93 a b = true ↔ a = b
  | [], [] => by simp [eqL93]
  | [], _ :: _ => by simp [eqL93]
  | _ :: _, [] => by simp [eqL93]
  | x :: r, y :: s => by simp only [eqL93, Bool.and_eq_true, eq93_iff, eqL93_iff, List.cons.injEq]
theorem rd93_drop {l : List S93} {i : Nat} (h : i < l.length) : l.drop i = rd_T93 l i :: l.drop (i + 1) := by
  rw [List.drop_eq_getElem_cons h]
  unfold rd_T93
  rw [Int.toNat_natCast, List.getD_eq_getElem?_getD, List.getElem?_eq_getElem h]; rfl
theorem lines_l {a b : List S93} (hab : a.length = b.length) (hl : a.length ≤ 999999999) (d : Nat) : ∀ (k i : Nat), i + d = a.length → d < k →
    quartermasterref18_Lines.l0 k a b i = some (eqL93 (a.drop i) (b.drop i)) := by
  induction d with
  | zero =>
    intro k i h hk
    obtain ⟨k, rfl⟩ : ∃ m, k = m + 1 := ⟨k - 1, by omega⟩
    simp only [quartermasterref18_Lines.l0]
    rw [if_neg (by omega), List.drop_of_length_le (by omega), List.drop_of_length_le (by omega)]; rfl
  | succ d ih =>
    intro k i h hk
    obtain ⟨k, rfl⟩ : ∃ m, k = m + 1 := ⟨k - 1, by omega⟩
    simp only [quartermasterref18_Lines.l0]
    rw [if_pos (by omega), if_pos (by omega), if_pos (by omega), rd93_drop (l := a) (i := i) (by omega), rd93_drop (l := b) (i := i) (by omega)]
    have e6 : wrap64 ((i : Int) + 1) = ((i + 1 : Nat) : Int) := by unfold wrap64; omega
    have e7 : ∀ x y : S93, (!(x.f0 == y.f0) || (!(x.f1 == y.f1) || (!(x.f2 == y.f2)))) = !(eq93 x y) := fun x y => by
      unfold eq93
      simp only [Bool.not_and]
    rw [e7, e6, ih k (i + 1) (by omega) (by omega)]
    show _ = some (eq93 _ _ && _)
    cases eq93 (rd_T93 a i) (rd_T93 b i) <;> simp
theorem lines_f {k : Nat} {a b : List S93} (hl : a.length ≤ 999999999) (hk : a.length < k) : quartermasterref18_Lines.f k a b = some (eqL93 a b) := by
  unfold quartermasterref18_Lines.f
  by_cases h : a.length = b.length
  · rw [if_pos (by omega)]
    exact lines_l h hl a.length k 0 (by omega) hk
  · rw [if_neg (by omega)]
    have : eqL93 a b = false := by rw [Bool.eq_false_iff]; exact fun e => h (by rw [eqL93_iff.1 e])
    rw [this]
def eq76 (x y : S76) : Bool := x.f0 == y.f0 && (x.f1 == y.f1 && (x.f2 == y.f2 && (x.f3 == y.f3)))
theorem eq76_iff {x y : S76} : eq76 x y = true ↔ x = y := by
  unfold eq76
  cases x; cases y
  simp only [Bool.and_eq_true, beq_iff_eq, S76.mk.injEq]
def eqL76 : List S76 → List S76 → Bool
  | [], [] => true
  | x :: r, y :: s => eq76 x y && eqL76 r s
  | _, _ => false
theorem eqL76_iff : ∀ {a b : List S76}, eqL76 a b = true ↔ a = b
  | [], [] => by simp [eqL76]
  | [], _ :: _ => by simp [eqL76]
  | _ :: _, [] => by simp [eqL76]
  | x :: r, y :: s => by simp only [eqL76, Bool.and_eq_true, eq76_iff, eqL76_iff, List.cons.injEq]
theorem rd76_drop {l : List S76} {i : Nat} (h : i < l.length) : l.drop i = rd_T76 l i :: l.drop (i + 1) := by
  rw [List.drop_eq_getElem_cons h]
  unfold rd_T76
  rw [Int.toNat_natCast, List.getD_eq_getElem?_getD, List.getElem?_eq_getElem h]; rfl
theorem trail_l {a b : List S76} (hab : a.length = b.length) (hl : a.length ≤ 999999999) (d : Nat) : ∀ (k i : Nat), i + d = a.length → d < k →
    quartermasterref19_Same.l0 k a b i = some (eqL76 (a.drop i) (b.drop i)) := by
  induction d with
  | zero =>
    intro k i h hk
    obtain ⟨k, rfl⟩ : ∃ m, k = m + 1 := ⟨k - 1, by omega⟩
    simp only [quartermasterref19_Same.l0]
    rw [if_neg (by omega), List.drop_of_length_le (by omega), List.drop_of_length_le (by omega)]; rfl
  | succ d ih =>
    intro k i h hk
    obtain ⟨k, rfl⟩ : ∃ m, k = m + 1 := ⟨k - 1, by omega⟩
    simp only [quartermasterref19_Same.l0]
    rw [if_pos (by omega), if_pos (by omega), if_pos (by omega), rd76_drop (l := a) (i := i) (by omega), rd76_drop (l := b) (i := i) (by omega)]
    have e6 : wrap64 ((i : Int) + 1) = ((i + 1 : Nat) : Int) := by unfold wrap64; omega
    have e7 : ∀ x y : S76, (!(x.f0 == y.f0) || (!(x.f1 == y.f1) || (!(x.f2 == y.f2) || (!(x.f3 == y.f3))))) = !(eq76 x y) := fun x y => by
      unfold eq76
      simp only [Bool.not_and]
    rw [e7, e6, ih k (i + 1) (by omega) (by omega)]
    show _ = some (eq76 _ _ && _)
    cases eq76 (rd_T76 a i) (rd_T76 b i) <;> simp
theorem trail_f {k : Nat} {a b : List S76} (hl : a.length ≤ 999999999) (hk : a.length < k) : quartermasterref19_Same.f k a b = some (eqL76 a b) := by
  unfold quartermasterref19_Same.f
  by_cases h : a.length = b.length
  · rw [if_pos (by omega)]
    exact trail_l h hl a.length k 0 (by omega) hk
  · rw [if_neg (by omega)]
    have : eqL76 a b = false := by rw [Bool.eq_false_iff]; exact fun e => h (by rw [eqL76_iff.1 e])
    rw [this]
theorem field_f (k : Nat) (a0 a1 a2 a3 a4 a5 a6 a7 a8 : Int) (L : List S93) : quartermasterref21_field.f (k + 1) a0 a1 a2 a3 a4 a5 a6 a7 a8 L 105 = some a1 ∧ quartermasterref21_field.f (k + 1) a0 a1 a2 a3 a4 a5 a6 a7 a8 L 115 = some a2 ∧ quartermasterref21_field.f (k + 1) a0 a1 a2 a3 a4 a5 a6 a7 a8 L 108 = some a3 ∧ quartermasterref21_field.f (k + 1) a0 a1 a2 a3 a4 a5 a6 a7 a8 L 116 = some a4 ∧ quartermasterref21_field.f (k + 1) a0 a1 a2 a3 a4 a5 a6 a7 a8 L 113 = some a5 ∧ quartermasterref21_field.f (k + 1) a0 a1 a2 a3 a4 a5 a6 a7 a8 L 114 = some a6 ∧ quartermasterref21_field.f (k + 1) a0 a1 a2 a3 a4 a5 a6 a7 a8 L 107 = some a7 ∧ quartermasterref21_field.f (k + 1) a0 a1 a2 a3 a4 a5 a6 a7 a8 L 110 = some a8 := by
  refine ⟨?_, ?_, ?_, ?_, ?_, ?_, ?_, ?_⟩ <;> simp [quartermasterref21_field.f, quartermasterref21_field.j0]
theorem reqs_l (k : Nat) (z : Bool) (a0 a1 a2 a3 a4 a5 a6 a7 a8 b0 b1 b2 b3 b4 b5 b6 b7 b8 : Int) (L M : List S93) : quartermasterref21_Reqs.l0 (k + 20) z (⟨#[105, 115, 108, 116, 113, 114, 107, 110]⟩ : ByteArray) 0 a0 a1 a2 a3 a4 a5 a6 a7 a8 L b0 b1 b2 b3 b4 b5 b6 b7 b8 M = some (a1 == b1 && (a2 == b2 && (a3 == b3 && (a4 == b4 && (a5 == b5 && (a6 == b6 && (a7 == b7 && (a8 == b8 && (z && a0 == b0))))))))) := by
  rw [show k + 20 = (k + 19) + 1 from rfl, quartermasterref21_Reqs.l0, if_pos (by decide), if_pos (by decide), show bt (⟨#[105, 115, 108, 116, 113, 114, 107, 110]⟩ : ByteArray) 0 = 105 from rfl, show k + 19 = (k + 18) + 1 from rfl, (field_f (k + 18) a0 a1 a2 a3 a4 a5 a6 a7 a8 L).1, (field_f (k + 18) b0 b1 b2 b3 b4 b5 b6 b7 b8 M).1, Option.bind_some, Option.bind_some, show wrap64 ((0 : Int) + 1) = 1 from by unfold wrap64; omega]
  by_cases h0 : a1 = b1
  case neg => rw [if_neg h0, show (a1 == b1) = false from by simpa using h0]; simp
  rw [if_pos h0, show (a1 == b1) = true from by simpa using h0, Bool.true_and]
  rw [show k + 19 = (k + 18) + 1 from rfl, quartermasterref21_Reqs.l0, if_pos (by decide), if_pos (by decide), show bt (⟨#[105, 115, 108, 116, 113, 114, 107, 110]⟩ : ByteArray) 1 = 115 from rfl, show k + 18 = (k + 17) + 1 from rfl, (field_f (k + 17) a0 a1 a2 a3 a4 a5 a6 a7 a8 L).2.1, (field_f (k + 17) b0 b1 b2 b3 b4 b5 b6 b7 b8 M).2.1, Option.bind_some, Option.bind_some, show wrap64 ((1 : Int) + 1) = 2 from by unfold wrap64; omega]
  by_cases h1 : a2 = b2
  case neg => rw [if_neg h1, show (a2 == b2) = false from by simpa using h1]; simp
  rw [if_pos h1, show (a2 == b2) = true from by simpa using h1, Bool.true_and]
  rw [show k + 18 = (k + 17) + 1 from rfl, quartermasterref21_Reqs.l0, if_pos (by decide), if_pos (by decide), show bt (⟨#[105, 115, 108, 116, 113, 114, 107, 110]⟩ : ByteArray) 2 = 108 from rfl, show k + 17 = (k + 16) + 1 from rfl, (field_f (k + 16) a0 a1 a2 a3 a4 a5 a6 a7 a8 L).2.2.1, (field_f (k + 16) b0 b1 b2 b3 b4 b5 b6 b7 b8 M).2.2.1, Option.bind_some, Option.bind_some, show wrap64 ((2 : Int) + 1) = 3 from by unfold wrap64; omega]
  by_cases h2 : a3 = b3
  case neg => rw [if_neg h2, show (a3 == b3) = false from by simpa using h2]; simp
  rw [if_pos h2, show (a3 == b3) = true from by simpa using h2, Bool.true_and]
  rw [show k + 17 = (k + 16) + 1 from rfl, quartermasterref21_Reqs.l0, if_pos (by decide), if_pos (by decide), show bt (⟨#[105, 115, 108, 116, 113, 114, 107, 110]⟩ : ByteArray) 3 = 116 from rfl, show k + 16 = (k + 15) + 1 from rfl, (field_f (k + 15) a0 a1 a2 a3 a4 a5 a6 a7 a8 L).2.2.2.1, (field_f (k + 15) b0 b1 b2 b3 b4 b5 b6 b7 b8 M).2.2.2.1, Option.bind_some, Option.bind_some, show wrap64 ((3 : Int) + 1) = 4 from by unfold wrap64; omega]
  by_cases h3 : a4 = b4
  case neg => rw [if_neg h3, show (a4 == b4) = false from by simpa using h3]; simp
  rw [if_pos h3, show (a4 == b4) = true from by simpa using h3, Bool.true_and]
  rw [show k + 16 = (k + 15) + 1 from rfl, quartermasterref21_Reqs.l0, if_pos (by decide), if_pos (by decide), show bt (⟨#[105, 115, 108, 116, 113, 114, 107, 110]⟩ : ByteArray) 4 = 113 from rfl, show k + 15 = (k + 14) + 1 from rfl, (field_f (k + 14) a0 a1 a2 a3 a4 a5 a6 a7 a8 L).2.2.2.2.1, (field_f (k + 14) b0 b1 b2 b3 b4 b5 b6 b7 b8 M).2.2.2.2.1, Option.bind_some, Option.bind_some, show wrap64 ((4 : Int) + 1) = 5 from by unfold wrap64; omega]
  by_cases h4 : a5 = b5
  case neg => rw [if_neg h4, show (a5 == b5) = false from by simpa using h4]; simp
  rw [if_pos h4, show (a5 == b5) = true from by simpa using h4, Bool.true_and]
  rw [show k + 15 = (k + 14) + 1 from rfl, quartermasterref21_Reqs.l0, if_pos (by decide), if_pos (by decide), show bt (⟨#[105, 115, 108, 116, 113, 114, 107, 110]⟩ : ByteArray) 5 = 114 from rfl, show k + 14 = (k + 13) + 1 from rfl, (field_f (k + 13) a0 a1 a2 a3 a4 a5 a6 a7 a8 L).2.2.2.2.2.1, (field_f (k + 13) b0 b1 b2 b3 b4 b5 b6 b7 b8 M).2.2.2.2.2.1, Option.bind_some, Option.bind_some, show wrap64 ((5 : Int) + 1) = 6 from by unfold wrap64; omega]
  by_cases h5 : a6 = b6
  case neg => rw [if_neg h5, show (a6 == b6) = false from by simpa using h5]; simp
  rw [if_pos h5, show (a6 == b6) = true from by simpa using h5, Bool.true_and]
  rw [show k + 14 = (k + 13) + 1 from rfl, quartermasterref21_Reqs.l0, if_pos (by decide), if_pos (by decide), show bt (⟨#[105, 115, 108, 116, 113, 114, 107, 110]⟩ : ByteArray) 6 = 107 from rfl, show k + 13 = (k + 12) + 1 from rfl, (field_f (k + 12) a0 a1 a2 a3 a4 a5 a6 a7 a8 L).2.2.2.2.2.2.1, (field_f (k + 12) b0 b1 b2 b3 b4 b5 b6 b7 b8 M).2.2.2.2.2.2.1, Option.bind_some, Option.bind_some, show wrap64 ((6 : Int) + 1) = 7 from by unfold wrap64; omega]
  by_cases h6 : a7 = b7
  case neg => rw [if_neg h6, show (a7 == b7) = false from by simpa using h6]; simp
  rw [if_pos h6, show (a7 == b7) = true from by simpa using h6, Bool.true_and]
  rw [show k + 13 = (k + 12) + 1 from rfl, quartermasterref21_Reqs.l0, if_pos (by decide), if_pos (by decide), show bt (⟨#[105, 115, 108, 116, 113, 114, 107, 110]⟩ : ByteArray) 7 = 110 from rfl, show k + 12 = (k + 11) + 1 from rfl, (field_f (k + 11) a0 a1 a2 a3 a4 a5 a6 a7 a8 L).2.2.2.2.2.2.2, (field_f (k + 11) b0 b1 b2 b3 b4 b5 b6 b7 b8 M).2.2.2.2.2.2.2, Option.bind_some, Option.bind_some, show wrap64 ((7 : Int) + 1) = 8 from by unfold wrap64; omega]
  by_cases h7 : a8 = b8
  case neg => rw [if_neg h7, show (a8 == b8) = false from by simpa using h7]; simp
  rw [if_pos h7, show (a8 == b8) = true from by simpa using h7, Bool.true_and]
  rw [show k + 11 + 1 = (k + 11) + 1 from rfl, quartermasterref21_Reqs.l0, if_neg (by decide)]
  cases z <;> simp
theorem reqs_f {k : Nat} (a0 a1 a2 a3 a4 a5 a6 a7 a8 b0 b1 b2 b3 b4 b5 b6 b7 b8 : Int) (L M : List S93) (hL : L.length ≤ k) (hl : L.length ≤ 999999999) : quartermasterref21_Reqs.f (k + 20) a0 a1 a2 a3 a4 a5 a6 a7 a8 L b0 b1 b2 b3 b4 b5 b6 b7 b8 M = some (a1 == b1 && (a2 == b2 && (a3 == b3 && (a4 == b4 && (a5 == b5 && (a6 == b6 && (a7 == b7 && (a8 == b8 && (eqL93 L M && a0 == b0))))))))) := by
  unfold quartermasterref21_Reqs.f
  rw [lines_f hl (by omega), Option.bind_some, reqs_l]
theorem reqs_iff {k : Nat} {ns ms : List Int} {L M : List S93} {a0 a1 a2 a3 a4 a5 a6 a7 a8 b0 b1 b2 b3 b4 b5 b6 b7 b8 : Int} (hns : ns = [a0, a1, a2, a3, a4, a5, a6, a7, a8]) (hms : ms = [b0, b1, b2, b3, b4, b5, b6, b7, b8]) (hL : L.length ≤ k) (hl : L.length ≤ 999999999) : ∃ r, quartermasterref21_Reqs.f (k + 20) a0 a1 a2 a3 a4 a5 a6 a7 a8 L b0 b1 b2 b3 b4 b5 b6 b7 b8 M = some r ∧ (r = true ↔ ns = ms ∧ L = M) := by
  refine ⟨_, reqs_f a0 a1 a2 a3 a4 a5 a6 a7 a8 b0 b1 b2 b3 b4 b5 b6 b7 b8 L M hL hl, ?_⟩
  subst hns hms
  simp only [Bool.and_eq_true, beq_iff_eq, eqL93_iff, List.cons.injEq, and_true]
  constructor
  · rintro ⟨h1, h2, h3, h4, h5, h6, h7, h8, h, h0⟩; exact ⟨⟨h0, h1, h2, h3, h4, h5, h6, h7, h8⟩, h⟩
  · rintro ⟨⟨h0, h1, h2, h3, h4, h5, h6, h7, h8⟩, h⟩; exact ⟨h1, h2, h3, h4, h5, h6, h7, h8, h, h0⟩
theorem reps_f {k : Nat} (c a b d e f : Int) (L M : List S93) (K J : List S76) (hL : L.length < k) (hl : L.length ≤ 999999999) (hK : K.length < k) (hk : K.length ≤ 999999999) : ∃ r, quartermasterref21_Replies.f k c a b L K d e f M J = some r ∧ (r = true ↔ (⟨c, a, b, L, K⟩ : Rep) = ⟨d, e, f, M, J⟩) := by
  unfold quartermasterref21_Replies.f
  rw [lines_f hl hL, trail_f hk hK, Option.bind_some, Option.bind_some]
  simp only [Rep.mk.injEq]
  refine ⟨(eqL93 L M && (eqL76 K J && ((c == d) && ((a == e) && (b == f))))), ?_, ?_⟩
  · cases eqL93 L M
    · rfl
    cases eqL76 K J
    · rfl
    by_cases h1 : c = d
    case neg => simp [h1]
    by_cases h2 : a = e
    case neg => simp [h1, h2]
    simp [h1, h2]
  · simp only [Bool.and_eq_true, beq_iff_eq, eqL93_iff, eqL76_iff]
    constructor
    · rintro ⟨h1, h2, h3, h4, h5⟩; exact ⟨h3, h4, h5, h1, h2⟩
    · rintro ⟨h3, h4, h5, h1, h2⟩; exact ⟨h1, h2, h3, h4, h5⟩
end Go.Proofs.Ytgdelfckhcgnhaa.Code
