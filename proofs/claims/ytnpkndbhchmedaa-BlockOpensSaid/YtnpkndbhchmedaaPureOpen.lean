/- What block.Open comes to, and that what was sealed is opened as it was: plain laws over numbers and lists, of bytes (each from 0 to 255). -/
import Derived.Test.YtnpkndbhchmedaaPureBlk2
import Derived.Test.YtnpkndbhchmedaaPb2
import Derived.Lib.Bytes
namespace Go.Proofs.Ytnpkndbhchmedaa.Pure
open Go.RowKit Go.Proofs.Ytnpkndbhchmedaa.Pa Go.Proofs.Ytnpkndbhchmedaa.Pb Go.Proofs.Ytnpkndbhchmedaa.Ext Go.Proofs.YtnpkndbhchmedaaW.PrintWords Go.Proofs.YtnpkndbhchmedaaW.PrintLast

theorem map_inj {a b : List Int} (ha : okB a = true) (hb : okB b = true) (h : (a.map fun n => UInt8.ofNat n.toNat) = b.map fun n => UInt8.ofNat n.toNat) : a = b := by
  have hl : a.length = b.length := by have := congrArg List.length h; simpa using this
  refine List.ext_getElem hl fun i h1 h2 => ?_
  have e := congrArg (fun l => l[i]?) h
  simp only [List.getElem?_map, List.getElem?_eq_getElem h1, List.getElem?_eq_getElem h2, Option.map_some, Option.some.injEq] at e
  have e2 := congrArg UInt8.toNat e
  obtain ⟨a0, a1⟩ := okB_at ha (List.getElem_mem h1)
  obtain ⟨b0, b1⟩ := okB_at hb (List.getElem_mem h2)
  simp only [UInt8.toNat_ofNat'] at e2
  omega
theorem bequal_f {a b : List Int} (ha : okB a = true) (hb : okB b = true) : bytes_Equal.f a b = some (a == b) := by
  unfold bytes_Equal.f
  rw [Lib.strOfNums_toList, Lib.strOfNums_toList]
  congr 1
  rw [Bool.eq_iff_iff, beq_iff_eq, beq_iff_eq]
  exact ⟨fun h => map_inj ha hb h, fun h => by rw [h]⟩
/-- The block's own bytes. -/
def bodyOf (s : List Int) : List Int := (s.take (24 + (num2 s 20).toNat)).drop 24
/-- What a sector is opened to. -/
def openS (s : List Int) : Int × Int × Int × Int × Int × List Int × Int :=
  if s.length = 256 then
    (if num2 s 20 ≤ 228 ∧ numS (rd s 2) (num4 s 4) (num4 s 8) (num4 s 12) (num4 s 16) = true ∧ s = sealT (rd s 2) (num4 s 4) (num4 s 8) (num4 s 12) (num4 s 16) (bodyOf s)
      then (rd s 2, num4 s 4, num4 s 8, num4 s 12, num4 s 16, bodyOf s, 0) else (0, 0, 0, 0, 0, [], 7))
  else (0, 0, 0, 0, 0, [], 1)
theorem bodyOf_length {s : List Int} (ho : okB s = true) (h : s.length = 256) (h2 : num2 s 20 ≤ 228) : (bodyOf s).length = (num2 s 20).toNat := by
  have : 0 ≤ num2 s 20 := by
    obtain ⟨c0, c1⟩ := rd_b ho (show 20 < s.length by omega)
    obtain ⟨d0, d1⟩ := rd_b ho (show 21 < s.length by omega)
    unfold num2
    have e : ((20 + 1 : Nat) : Int) = ((21 : Nat) : Int) := rfl
    rw [e]
    omega
  unfold bodyOf
  rw [List.length_drop, List.length_take]
  omega
theorem okB_bodyOf {s : List Int} (ho : okB s = true) : okB (bodyOf s) = true := okB_drop (okB_take ho _) _
theorem sealS_ok {a0 a1 a2 a3 a4 : Int} {l : List Int} (hl : l.length ≤ 228) : sealS a0 a1 a2 a3 a4 l = if numS a0 a1 a2 a3 a4 = true then (sealT a0 a1 a2 a3 a4 l, 0) else ([], 1) := by
  unfold sealS
  rw [if_neg (show ¬ (l.length : Int) > 228 by omega)]
theorem wholeS_seal {l : List Int} : wholeS (l ++ le4 (moreS 0 l)) = true := by
  unfold wholeS
  have e : (l ++ le4 (moreS 0 l)).length - 4 = l.length := by simp [le4]
  rw [e, List.drop_left, List.take_left]
  simp [le4]
theorem open_f {k : Nat} {s : List Int} (hk : 400 < k) (ho : okB s = true) (hs : s.length ≤ 1000) : block_Open.f k s = some (openS s) := by
  obtain ⟨k, rfl⟩ : ∃ m, k = m + 1 := ⟨k - 1, by omega⟩
  unfold block_Open.f openS
  by_cases h : s.length = 256
  · rw [if_pos (by omega), if_pos h, show (20 : Int) = ((20 : Nat) : Int) from rfl, number_f2 ho hs (by omega) (by omega), whole_f ho (by omega) (by omega)]
    simp only [Option.bind_some]
    have hno : block_Open.j0 (k + 1) s (num2 s 20) true = some (0, 0, 0, 0, 0, [], 7) := by simp only [block_Open.j0, if_true]
    by_cases hw : wholeS s = true
    · rw [if_pos hw]
      by_cases h2 : num2 s 20 ≤ 228
      · rw [decide_eq_false (show ¬ num2 s 20 > 228 by omega)]
        simp only [block_Open.j0, Bool.false_eq_true, if_false]
        obtain ⟨c0, c1⟩ := rd_b ho (show 20 < s.length by omega)
        obtain ⟨d0, d1⟩ := rd_b ho (show 21 < s.length by omega)
        obtain ⟨e0, e1⟩ := rd_b ho (show 2 < s.length by omega)
        have hn0 : 0 ≤ num2 s 20 := by
          unfold num2
          have e : ((20 + 1 : Nat) : Int) = ((21 : Nat) : Int) := rfl
          rw [e]
          omega
        have ew : wrap64 (24 + num2 s 20) = 24 + num2 s 20 := by unfold wrap64; omega
        have ew2 : wrap64 (rd s 2) = rd s 2 := by
          have e0' : 0 ≤ rd s 2 := e0
          have e1' : rd s 2 < 256 := e1
          unfold wrap64; omega
        rw [ew, ew2, if_pos (by omega), show (4 : Int) = ((4 : Nat) : Int) from rfl, show (8 : Int) = ((8 : Nat) : Int) from rfl, show (12 : Int) = ((12 : Nat) : Int) from rfl, show (16 : Int) = ((16 : Nat) : Int) from rfl]
        rw [show ((4 : Nat) : Int) = 4 from rfl]
        have n4 : block_number.f k s 4 4 = some (num4 s 4) := number_f4 (p := 4) ho hs (by omega) (by omega)
        have n8 : block_number.f k s ((8 : Nat) : Int) 4 = some (num4 s 8) := number_f4 (p := 8) ho hs (by omega) (by omega)
        have n12 : block_number.f k s ((12 : Nat) : Int) 4 = some (num4 s 12) := number_f4 (p := 12) ho hs (by omega) (by omega)
        have n16 : block_number.f k s ((16 : Nat) : Int) 4 = some (num4 s 16) := number_f4 (p := 16) ho hs (by omega) (by omega)
        rw [n4, n8, n12, n16]
        simp only [Option.bind_some]
        have et : (24 + num2 s 20).toNat = 24 + (num2 s 20).toNat := by omega
        rw [if_pos (by omega), if_pos (by omega), et]
        have eb : (s.take (24 + (num2 s 20).toNat)).drop 24 = bodyOf s := rfl
        rw [eb]
        have hbl := bodyOf_length ho h h2
        have hcl : bytes_Clone.f (bodyOf s) = some (bodyOf s) := by unfold bytes_Clone.f; rw [if_pos (by omega)]
        rw [hcl]
        simp only [Option.bind_some]
        rw [seal_blk (by omega) (okB_bodyOf ho), sealS_ok (by omega)]
        simp only [Option.bind_some]
        by_cases hn : numS (rd s 2) (num4 s 4) (num4 s 8) (num4 s 12) (num4 s 16) = true
        · rw [if_pos hn, if_pos rfl, bequal_f ho (okB_sealT (okB_bodyOf ho))]
          simp only [Option.bind_some]
          by_cases he : s = sealT (rd s 2) (num4 s 4) (num4 s 8) (num4 s 12) (num4 s 16) (bodyOf s)
          · rw [if_pos (beq_iff_eq.2 he), if_pos ⟨h2, hn, he⟩]
          · rw [if_neg (fun hh => he (beq_iff_eq.1 hh)), if_neg (fun hh => he hh.2.2)]
        · rw [if_neg hn, if_neg (show ¬ ((([] : List Int), (1 : Int)).2 = 0) by decide), if_neg (fun hh => hn hh.2.1)]
      · rw [decide_eq_true (show num2 s 20 > 228 by omega), hno, if_neg (fun hh => h2 hh.1)]
    · rw [if_neg hw, hno, if_neg (fun hh => hw (by rw [hh.2.2]; exact wholeS_seal))]
  · rw [if_neg (by omega), if_neg h]

theorem rd_app {a b : List Int} {i : Nat} (h : i < a.length) : rd (a ++ b) (i : Int) = rd a (i : Int) := by simp [rd, List.getElem?_append_left h]
theorem sealT_head {a0 a1 a2 a3 a4 : Int} {l : List Int} {i : Nat} (h : i < 24) : rd (sealT a0 a1 a2 a3 a4 l) (i : Int) = rd (headS a0 a1 a2 a3 a4 l.length) (i : Int) := by
  unfold sealT sealB bodyS
  rw [List.append_assoc, List.append_assoc]
  exact rd_app h
theorem num4_of {a0 a1 a2 a3 a4 : Int} {l : List Int} (hn : numS a0 a1 a2 a3 a4 = true) (hl : l.length ≤ 228) : rd (sealT a0 a1 a2 a3 a4 l) 2 = a0 ∧ num4 (sealT a0 a1 a2 a3 a4 l) 4 = a1 ∧ num4 (sealT a0 a1 a2 a3 a4 l) 8 = a2 ∧ num4 (sealT a0 a1 a2 a3 a4 l) 12 = a3 ∧ num4 (sealT a0 a1 a2 a3 a4 l) 16 = a4 ∧ num2 (sealT a0 a1 a2 a3 a4 l) 20 = l.length := by
  obtain ⟨k0, k1, h1, h2, h3, h4⟩ := numS_of hn
  have hd : ∀ i : Nat, i < 24 → rd (sealT a0 a1 a2 a3 a4 l) (i : Int) = rd (headS a0 a1 a2 a3 a4 l.length) (i : Int) := fun i hi => sealT_head hi
  refine ⟨?_, ?_, ?_, ?_, ?_, ?_⟩
  · have e : rd (sealT a0 a1 a2 a3 a4 l) 2 = a0 % 256 := (hd 2 (by decide)).trans rfl
    rw [e]; omega
  · unfold num4
    rw [hd 4 (by decide), hd (4 + 1) (by decide), hd (4 + 2) (by decide), hd (4 + 3) (by decide)]
    show a1 % 256 + 256 * (a1 / 256 % 256 + 256 * (a1 / 256 / 256 % 256 + 256 * (a1 / 256 / 256 / 256 % 256))) = a1
    omega
  · unfold num4
    rw [hd 8 (by decide), hd (8 + 1) (by decide), hd (8 + 2) (by decide), hd (8 + 3) (by decide)]
    show a2 % 256 + 256 * (a2 / 256 % 256 + 256 * (a2 / 256 / 256 % 256 + 256 * (a2 / 256 / 256 / 256 % 256))) = a2
    omega
  · unfold num4
    rw [hd 12 (by decide), hd (12 + 1) (by decide), hd (12 + 2) (by decide), hd (12 + 3) (by decide)]
    show a3 % 256 + 256 * (a3 / 256 % 256 + 256 * (a3 / 256 / 256 % 256 + 256 * (a3 / 256 / 256 / 256 % 256))) = a3
    omega
  · unfold num4
    rw [hd 16 (by decide), hd (16 + 1) (by decide), hd (16 + 2) (by decide), hd (16 + 3) (by decide)]
    show a4 % 256 + 256 * (a4 / 256 % 256 + 256 * (a4 / 256 / 256 % 256 + 256 * (a4 / 256 / 256 / 256 % 256))) = a4
    omega
  · unfold num2
    rw [hd 20 (by decide), hd (20 + 1) (by decide)]
    show (l.length : Int) % 256 + 256 * ((l.length : Int) / 256 % 256) = l.length
    omega
theorem bodyOf_seal {a0 a1 a2 a3 a4 : Int} {l : List Int} (hn : numS a0 a1 a2 a3 a4 = true) (hl : l.length ≤ 228) : bodyOf (sealT a0 a1 a2 a3 a4 l) = l := by
  unfold bodyOf
  rw [(num4_of hn hl).2.2.2.2.2, Int.toNat_natCast]
  unfold sealT sealB bodyS
  rw [List.append_assoc, List.append_assoc, List.take_append, List.drop_append]
  have h24 : (headS a0 a1 a2 a3 a4 l.length).length = 24 := rfl
  rw [h24, List.take_of_length_le (by rw [h24]; omega), h24, List.drop_of_length_le (by rw [h24]; omega), show 24 + l.length - 24 = l.length by omega]
  simp
theorem open_seal {a0 a1 a2 a3 a4 : Int} {l : List Int} (hn : numS a0 a1 a2 a3 a4 = true) (hl : l.length ≤ 228) : openS (sealT a0 a1 a2 a3 a4 l) = (a0, a1, a2, a3, a4, l, 0) := by
  obtain ⟨e0, e1, e2, e3, e4, e5⟩ := num4_of hn hl
  have eb := bodyOf_seal hn hl
  unfold openS
  rw [e0, e1, e2, e3, e4, e5, eb, if_pos (sealT_length hl), if_pos ⟨by omega, hn, rfl⟩]
end Go.Proofs.Ytnpkndbhchmedaa.Pure
