/- Sums of bytes of one length differ as their differences do: the law over numbers and lists. At most 600 bytes, as the statement itself bounds them. -/
import Derived.Test.YtdkijmlfffnilaaPx3
import Derived.Test.YtdkijmlfffnilaaPureCrcParts
namespace Go.Proofs.Ytdkijmlfffnilaa.Pure
open Go.RowKit Go.Proofs.Ytdkijmlfffnilaa.Px Go.Proofs.Ytdkijmlfffnilaa.Ext Go.Proofs.YtdkijmlfffnilaaW.PrintWords Go.Proofs.YtdkijmlfffnilaaW.PrintLast

theorem xorL_length : ∀ (a b : List Int), a.length = b.length → (xorL a b).length = a.length
  | [], [], _ => rfl
  | c :: a, d :: b, h => by rw [xorL, List.length_cons, xorL_length a b (by simpa using h)]; rfl
  | [], _ :: _, h => by simp at h
  | _ :: _, [], h => by simp at h
theorem xorL_ok : ∀ (a b : List Int), okB a = true → okB b = true → okB (xorL a b) = true
  | [], _, _, _ => by simp [xorL, okB]
  | _ :: _, [], _, _ => by simp [xorL, okB]
  | c :: a, d :: b, ha, hb => by
    obtain ⟨c0, c1⟩ := okB_at ha (c := c) List.mem_cons_self
    obtain ⟨d0, d1⟩ := okB_at hb (c := d) List.mem_cons_self
    have hr := xorL_ok a b (by simp [okB] at ha ⊢; exact ha.2) (by simp [okB] at hb ⊢; exact hb.2)
    have hx : c.toNat ^^^ d.toNat < 256 := Nat.xor_lt_two_pow (n := 8) (by omega) (by omega)
    refine okB_of fun x hx2 => ?_
    rw [xorL] at hx2
    rcases List.mem_cons.1 hx2 with e | e
    · rw [e]; omega
    · exact okB_at hr e
theorem xorL_rd : ∀ (a b : List Int) (i : Nat), a.length = b.length → i < a.length → rd (xorL a b) i = (((rd a i).toNat ^^^ (rd b i).toNat : Nat) : Int)
  | c :: a, d :: b, 0, _, _ => by simp [xorL, rd]
  | c :: a, d :: b, i + 1, h, hi => by
    have := xorL_rd a b i (by simpa using h) (by simpa using hi)
    simp [rd] at this ⊢
    simpa [xorL] using this
  | [], [], i, _, hi => by simp at hi
  | [], _ :: _, _, h, _ => by simp at h
  | _ :: _, [], _, h, _ => by simp at h
theorem set_take {s : List Int} {i : Nat} (h : i < s.length) (v : Int) : (s.set i v).take (i + 1) = s.take i ++ [v] := by
  rw [List.take_set, List.take_succ_eq_append_getElem h, List.set_append_right _ _ (by simp; omega)]
  rw [List.length_take, Nat.min_eq_left (Nat.le_of_lt h)]; simp

/-- What is left to be done when the differences are known. -/
def tail_ (a b c : List Int) : Option Bool := (Pa.crc_Sum.f a).bind fun t1 => (Pa.crc_Sum.f b).bind fun t2 => (Pa.crc_Sum.f c).bind fun t3 => (Pa.crc_Sum.f (List.replicate a.length 0)).bind fun t4 => some ((Go.bits .xor .i64 (Go.bits .xor .i64 (Go.bits .xor .i64 t1 t2) t3) t4) == 0)

theorem same_l0 {a b : List Int} (hab : a.length = b.length) (hl : a.length ≤ 600) (hoa : okB a = true) (hob : okB b = true) (d : Nat) : ∀ (k i : Nat) (s : List Int), i + d = a.length → s.length = a.length → d < k →
    s.take i = (xorL a b).take i → quartermasterlaw04_CrcSame.l0 k a b s i = tail_ a b (xorL a b) := by
  induction d with
  | zero =>
    intro k i s h hs hk ht
    obtain ⟨k, rfl⟩ : ∃ m, k = m + 1 := ⟨k - 1, by omega⟩
    simp only [quartermasterlaw04_CrcSame.l0]
    have hx := xorL_length a b hab
    obtain rfl : s = xorL a b := by
      rw [List.take_of_length_le (by omega), List.take_of_length_le (by omega)] at ht
      exact ht
    rw [if_neg (by omega)]
    have q1 : (0 : Int) ≤ (a.length : Int) := by omega
    have q2 : a.length ≤ 281474976710656 := by omega
    simp only [q1, if_true, Int.toNat_natCast, q2]
    rfl
  | succ d ih =>
    intro k i s h hs hk ht
    obtain ⟨k, rfl⟩ : ∃ m, k = m + 1 := ⟨k - 1, by omega⟩
    simp only [quartermasterlaw04_CrcSame.l0]
    have e6 : wrap64 ((i : Int) + 1) = ((i + 1 : Nat) : Int) := by unfold wrap64; omega
    rw [if_pos (by omega), if_pos (by omega), if_pos (by omega), if_pos (by omega), e6]
    clear e6
    have ha : i < a.length := by omega
    have hb : i < b.length := by omega
    obtain ⟨c0, c1⟩ := okB_at hoa (c := rd a i) (by simp [rd, ha])
    obtain ⟨d0, d1⟩ := okB_at hob (c := rd b i) (by simp [rd, hb])
    have hx : Go.bits .xor .u8 (rd a i) (rd b i) = (((rd a i).toNat ^^^ (rd b i).toNat : Nat) : Int) := u8_xor _ _ c0 c1 d0 d1
    rw [hx, Int.toNat_natCast]
    refine ih k (i + 1) _ (by omega) (by simp; omega) (by omega) ?_
    have hxl := xorL_length a b hab
    rw [set_take (by omega), ht, List.take_succ_eq_append_getElem (by omega), ← xorL_rd a b i hab ha]
    congr 2
    simp [rd, show i < (xorL a b).length by omega]

theorem i64_xor_nat {a b : Nat} (ha : a < 4294967296) (hb : b < 4294967296) : Go.bits .xor .i64 (a : Int) (b : Int) = ((a ^^^ b : Nat) : Int) := by
  have h1 : (BitVec.ofInt 64 (a : Int)).toNat = a := by simp; omega
  have h2 : (BitVec.ofInt 64 (b : Int)).toNat = b := by simp; omega
  have hx : a ^^^ b < 4294967296 := Nat.xor_lt_two_pow (n := 32) (by omega) (by omega)
  show IntKind.i64.wrap ((BitVec.ofInt 64 (a : Int) ^^^ BitVec.ofInt 64 (b : Int)).toNat : Int) = _
  rw [BitVec.toNat_xor, h1, h2]
  simp [IntKind.wrap, IntKind.bits, IntKind.signed]
  omega
theorem feed_zero : ∀ (a : List Int) (n : Nat), feed n (xorL a (List.replicate a.length 0)) = feed n a
  | [], _ => rfl
  | c :: a, n => by
    rw [List.length_cons, List.replicate_succ, xorL, feed_cons, feed_cons, feed_zero a]
    rw [show (0 : Int).toNat = 0 from rfl, Nat.xor_zero, Int.toNat_natCast]
theorem four_xor (f a b c : Nat) (h : c ^^^ f = a ^^^ b) (F : Nat) : ((a ^^^ F) ^^^ (b ^^^ F)) ^^^ (c ^^^ F) ^^^ (f ^^^ F) = 0 := by
  have e1 : (a ^^^ F) ^^^ (b ^^^ F) = a ^^^ b := by
    rw [Nat.xor_assoc, Nat.xor_comm b F, ← Nat.xor_assoc F F b, Nat.xor_self, Nat.zero_xor]
  have e2 : (a ^^^ b) ^^^ (c ^^^ F) ^^^ (f ^^^ F) = (a ^^^ b) ^^^ ((c ^^^ F) ^^^ (f ^^^ F)) := Nat.xor_assoc _ _ _
  have e3 : (c ^^^ F) ^^^ (f ^^^ F) = c ^^^ f := by
    rw [Nat.xor_assoc, Nat.xor_comm f F, ← Nat.xor_assoc F F f, Nat.xor_self, Nat.zero_xor]
  rw [e1, e2, e3, h, Nat.xor_self]

theorem CrcSame : quartermasterlaw04_CrcSame.Pure := by
  intro a b _ ha8 hwa _ hb8 hwb
  have hoa := okB_wf hwa
  have hob := okB_wf hwb
  refine ⟨700, ?_⟩
  unfold quartermasterlaw04_CrcSame.f quartermasterlaw04_awake.f
  simp only [Option.bind_some, if_true]
  have J1 : quartermasterlaw04_CrcSame.j0 700 a b true true = some true := by simp only [quartermasterlaw04_CrcSame.j0, if_true]
  by_cases h1 : (a.length : Int) > 600
  · rw [if_pos h1]; exact J1
  rw [if_neg h1]
  by_cases h2 : a.length = b.length
  · have e : ((a.length : Int) != (b.length : Int)) = false := by rw [bne_eq_false_iff_eq]; omega
    rw [e]
    simp only [quartermasterlaw04_CrcSame.j0, Bool.false_eq_true, if_false]
    rw [if_pos (by omega), if_pos (by omega)]
    have := same_l0 h2 (by omega) hoa hob a.length 699 0 (List.replicate a.length 0) (by omega) (by simp) (by omega) (by simp)
    rw [show ((0 : Nat) : Int) = 0 from rfl] at this
    rw [show ((a.length : Int) : Int).toNat = a.length from by omega, this]
    unfold tail_
    have hor : okB (List.replicate a.length (0 : Int)) = true := okB_of fun x hx => by rw [List.eq_of_mem_replicate hx]; omega
    have hox := xorL_ok a b hoa hob
    rw [sum_f hoa, sum_f hob, sum_f hox, sum_f hor]
    simp only [Option.bind_some]
    have k1 := moreS_lt 0 hoa
    have k2 := moreS_lt 0 hob
    have k3 := moreS_lt 0 hox
    have k4 := moreS_lt 0 hor
    have x1 : moreS 0 a ^^^ moreS 0 b < 4294967296 := Nat.xor_lt_two_pow (n := 32) (by omega) (by omega)
    have x2 : moreS 0 a ^^^ moreS 0 b ^^^ moreS 0 (xorL a b) < 4294967296 := Nat.xor_lt_two_pow (n := 32) (by omega) (by omega)
    rw [i64_xor_nat k1 k2, i64_xor_nat x1 k3, i64_xor_nat x2 k4]
    rw [moreS_zero, moreS_zero, moreS_zero, moreS_zero]
    have hf := feed_xor a b 4294967295 4294967295 h2
    have hg := feed_xor (xorL a b) (List.replicate a.length 0) 4294967295 4294967295 (by rw [xorL_length a b h2]; simp)
    have hz : xorL (xorL a b) (List.replicate a.length 0) = xorL (xorL a b) (List.replicate (xorL a b).length 0) := by rw [xorL_length a b h2]
    rw [hz, feed_zero] at hg
    rw [four_xor _ _ _ _ (by rw [← hg, hf])]
    rfl
  · have e : ((a.length : Int) != (b.length : Int)) = true := by rw [bne_iff_ne]; omega
    rw [e]; exact J1

end Go.Proofs.Ytdkijmlfffnilaa.Pure
