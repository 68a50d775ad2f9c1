/- The walk of CrcFew: it answers true. Of bytes (each from 0 to 255), at most 600, changed somewhere in what is sealed. -/
import Derived.Test.YtdkijmlfffnilaaPureFew
import Derived.RegionTactic
import Derived.ChangeAlike
namespace Go.Proofs.Ytdkijmlfffnilaa.Few
set_option linter.unusedVariables false
open Go.RowKit Go.Proofs.Ytdkijmlfffnilaa.Ext Go.Proofs.Ytdkijmlfffnilaa.Pure Go.Proofs.YtdkijmlfffnilaaW.PrintWords Go.Proofs.YtdkijmlfffnilaaW.PrintLast Go.Proofs.YtdkijmlfffnilaaW.PrintMore

/-- What is sealed, k of its bytes changed. -/
def turn (s y : List Int) (p : Nat) : Nat → List Int
  | 0 => s
  | k + 1 => (turn s y p k).set (p + k) (Go.bits .xor .u8 (rd (turn s y p k) ((p + k : Nat) : Int)) (rd y k))
theorem turn_length (s y : List Int) (p : Nat) : ∀ k, (turn s y p k).length = s.length
  | 0 => rfl
  | k + 1 => by rw [turn, List.length_set, turn_length s y p k]
/-- Is one of the first k changed? -/
def chg (y : List Int) (k : Nat) : Bool := (y.take k).any (· != 0)

theorem whole_at {n : Nat} (A : Option Addr) (c : Nat) (l : List Int) (r : Bool) (w : World) (hn : l.length = n) (hr : Kd.C (Kd.int .u8) w A n l) (hc : n ≤ c) (h : Pb.crc_Whole.f 700 l = some r) :
    Calls Try.prog 14 #[.slice A n c] w fun e w' => e = .returned (.bool r) ∧ Below w.heap.size w w' := by
  subst hn
  exact Pb.crc_Whole.calls 700 A c l r w hr hc h
theorem chg_succ (y : List Int) (k : Nat) (h : k < y.length) : chg y (k + 1) = (chg y k || (rd y k != 0)) := by
  unfold chg
  rw [List.take_succ_eq_append_getElem h, List.any_append]
  simp [rd, h]

theorem rd_set (l : List Int) (j i : Nat) (v : Int) (hj : j < l.length) : rd (l.set j v) (i : Int) = if j = i then v else rd l (i : Int) := by
  simp only [rd, Int.toNat_natCast, List.getD_eq_getElem?_getD]
  rw [List.getElem?_set]
  by_cases e : j = i
  · rw [if_pos e, if_pos e, if_pos hj]; rfl
  · rw [if_neg e, if_neg e]
theorem rd_mem {l : List Int} {i : Nat} (h : i < l.length) : rd l (i : Int) ∈ l := by simp [rd, h]
theorem turn_rd {s y : List Int} {p : Nat} (hs : okB s = true) (hy : okB y = true) (h4 : y.length = 4) (hp : p + 4 ≤ s.length) : ∀ (k i : Nat), k ≤ 4 → i < s.length →
    rd (turn s y p k) (i : Int) = if p ≤ i ∧ i < p + k then (((rd s i).toNat ^^^ (rd y ((i - p : Nat) : Int)).toNat : Nat) : Int) else rd s i
  | 0, i, _, _ => by rw [if_neg (by omega)]; rfl
  | k + 1, i, hk, hi => by
    have hin : rd (turn s y p k) ((p + k : Nat) : Int) = rd s ((p + k : Nat) : Int) := by rw [turn_rd hs hy h4 hp k (p + k) (by omega) (by omega), if_neg (by omega)]
    rw [turn, hin, rd_set _ _ _ _ (by rw [turn_length]; omega), turn_rd hs hy h4 hp k i (by omega) hi]
    by_cases e : p + k = i
    · subst e
      rw [if_pos rfl, if_pos (by omega)]
      obtain ⟨a0, a1⟩ := okB_at hs (c := rd s ((p + k : Nat) : Int)) (rd_mem hi)
      have hky : k < y.length := by omega
      obtain ⟨c0, c1⟩ := okB_at hy (c := rd y (k : Int)) (by simp [rd, hky])
      rw [u8_xor _ _ a0 a1 c0 c1, show p + k - p = k by omega]
    · rw [if_neg e]
      by_cases e2 : p ≤ i ∧ i < p + k
      · rw [if_pos e2, if_pos (by omega)]
      · rw [if_neg e2, if_neg (by omega)]
theorem rd_diffs {p q : Nat} {y : List Int} (h4 : y.length = 4) (i : Nat) : rd (diffs p q y) (i : Int) = if p ≤ i ∧ i < p + 4 then rd y ((i - p : Nat) : Int) else 0 := by
  simp only [rd, diffs, Int.toNat_natCast, List.getD_eq_getElem?_getD]
  by_cases h1 : i < p
  · rw [if_neg (by omega), List.getElem?_append_left (by simpa using h1), List.getElem?_replicate, if_pos h1]; rfl
  · rw [List.getElem?_append_right (by simpa using h1)]
    simp only [List.length_replicate]
    by_cases h2 : i < p + 4
    · rw [if_pos (by omega), List.getElem?_append_left (by omega)]
    · rw [if_neg (by omega), List.getElem?_append_right (by omega), List.getElem?_replicate]
      split <;> rfl
theorem turn_xor {s y : List Int} {p : Nat} (hs : okB s = true) (hy : okB y = true) (h4 : y.length = 4) (hp : p + 4 ≤ s.length) : turn s y p 4 = xorL s (diffs p (s.length - 4 - p) y) := by
  have hd : s.length = (diffs p (s.length - 4 - p) y).length := by simp [diffs, h4]; omega
  have hxl := xorL_length _ _ hd
  have hg : ∀ (l : List Int) (i : Nat) (h : i < l.length), l[i] = rd l (i : Int) := fun l i h => by simp [rd, h]
  refine List.ext_getElem (by rw [turn_length, hxl]) fun i h1 h2 => ?_
  rw [turn_length] at h1
  rw [hg, hg, turn_rd hs hy h4 hp 4 i (by omega) h1, xorL_rd _ _ i hd h1, rd_diffs h4]
  by_cases e : p ≤ i ∧ i < p + 4
  · rw [if_pos e, if_pos e]
  · rw [if_neg e, if_neg e]
    obtain ⟨a0, a1⟩ := okB_at hs (c := rd s (i : Int)) (by simp [rd, h1])
    simp
    omega
theorem turn_few {l0 s : List Int} {p : Nat} {b0 b1 b2 b3 : Int} (ho : okB l0 = true) (hy : okB [b0, b1, b2, b3] = true) (hp : p ≤ l0.length) (hl : l0.length ≤ 600) (es : s = l0 ++ le4 (moreS 0 l0 : Nat)) :
    Pb.crc_Whole.f 700 (turn s [b0, b1, b2, b3] p 4) = some (!(chg [b0, b1, b2, b3] 4)) := by
  have hseal : s.length = l0.length + 4 := by rw [es, List.length_append]; rfl
  have hs : okB s = true := by rw [es]; exact okB_append ho (okB_le4 _)
  have ht := turn_xor (p := p) hs hy rfl (by omega)
  rw [show s.length - 4 - p = l0.length - p by omega] at ht
  have hd : s.length = (diffs p (l0.length - p) [b0, b1, b2, b3]).length := by simp [diffs]; omega
  have hxo := xorL_ok _ _ hs (okB_diffs (p := p) (q := l0.length - p) hy)
  have hxl := xorL_length _ _ hd
  rw [ht, Pure.whole_f hxo (by omega) (by omega), es, few ho hy rfl hp]
  congr 1
  have e1 : (([b0, b1, b2, b3] : List Int) == [0, 0, 0, 0]) = (b0 == 0 && (b1 == 0 && (b2 == 0 && (b3 == 0 && true)))) := rfl
  have e2 : chg [b0, b1, b2, b3] 4 = (!(b0 == 0) || (!(b1 == 0) || (!(b2 == 0) || (!(b3 == 0) || false)))) := rfl
  rw [e1, e2]
  cases (b0 == 0) <;> cases (b1 == 0) <;> cases (b2 == 0) <;> cases (b3 == 0) <;> rfl

set_option maxRecDepth 100000 in
set_option maxHeartbeats 4000000 in
theorem calls_few (A0 : Option Addr) (c0 : Nat) (l0 : List Int) (p : Nat) (b0 b1 b2 b3 : Int) (w : World) (hr0 : Kd.C (Kd.int .u8) w A0 l0.length l0) (hc0 : l0.length ≤ c0)
    (ho : okB l0 = true) (hy : okB [b0, b1, b2, b3] = true) (hl : l0.length ≤ 600) (hp : p ≤ l0.length) :
    Calls Try.prog 5 #[.slice A0 l0.length c0, .int .i64 p, .agg #[.int .u8 b0, .int .u8 b1, .int .u8 b2, .int .u8 b3]] w fun e w' => e = .returned (.bool true) ∧ Below w.heap.size w w' := by
  have hseal := Pure.seal_f ho (by omega)
  have hlen4 : (le4 (moreS 0 l0 : Nat)).length = 4 := rfl
  have hlen : (l0 ++ le4 (moreS 0 l0 : Nat)).length = l0.length + 4 := by rw [List.length_append, hlen4]
  have hos := okB_append ho (okB_le4 (moreS 0 l0))
  obtain ⟨s, es⟩ : ∃ s, s = l0 ++ le4 (moreS 0 l0 : Nat) := ⟨_, rfl⟩
  rw [← es] at hseal hlen hos
  have hwh : Pb.crc_Whole.f 700 s = some true := by
    rw [Pure.whole_f hos (by omega) (by omega), es, wholeS_seal]
  have HSEAL := Aside0.mk hseal
  have HOS := Aside0.mk hos
  have HLEN := Aside0.mk hlen
  have HWH := Aside0.mk hwh
  have HR := Aside0.mk hr0
  have HES := Aside0.mk es
  have HO := Aside0.mk ho
  have HY := Aside0.mk hy
  have hfew := turn_few ho hy hp hl es
  have HFEW := Aside0.mk hfew
  clear hseal hos hlen hwh hr0 es ho hy hlen4 hfew
  have g1 : decide (600 < l0.length) = false := decide_eq_false (by omega)
  have g2 : decide ((p : Int) < 0) = false := decide_eq_false (by omega)
  have g3 : decide (l0.length < p) = false := decide_eq_false (by omega)
  go_enter Try.func5, Try.ntmps5
  go_wp2_with (first | (go_at_call 8; refine (quartermasterlaw04_awake.calls true _ rfl).mono ?_; rintro e w1 ⟨rfl, hb1⟩; have HB1 := Aside0.mk hb1; clear hb1) | (go_at_call 10; refine (crc_Seal.calls A0 c0 l0 s _ (Kd.C_below (Kd.C_alloc HR.out _) HB1.out) hc0 HSEAL.out).mono ?_; rintro e w2 ⟨v, rfl, hv, hb2⟩; have HB2 := Aside0.mk hb2; obtain ⟨g, c2, rfl, hg1, hg2, cells, hcells⟩ := Kd.R_form hv (by have := HLEN.out; omega); have HG := Aside0.mk hg1; have HV := Aside0.mk hv; clear hv hb2 hcells hg1; have hsl : (s.length : Int) = (l0.length : Int) + 4 := by (have := HLEN.out; omega)) | (go_at_call 14; refine (Pb.crc_Whole.calls 700 _ _ s true _ (Kd.R_reads' HV.out).2.2 (Kd.R_reads' HV.out).2.1 HWH.out).mono ?_; rintro e w3 ⟨rfl, hb3⟩; have HB3 := Aside0.mk hb3; clear hb3))
  have hbox2 : w2.heap[w.heap.size]? = some (.cells #[.int .u8 b0, .int .u8 b1, .int .u8 b2, .int .u8 b3] 30 (0, 0)) := by
    have h0 := heap_alloc_new w (.cells #[.int .u8 b0, .int .u8 b1, .int .u8 b2, .int .u8 b3] 30)
    have h1 := (HB1.out.block w.heap.size (by simp)).trans h0
    exact (HB2.out.block w.heap.size (by have := HB1.out.size; simp at this; omega)).trans h1
  have hbox3 : w3.heap[w.heap.size]? = some (.cells #[.int .u8 b0, .int .u8 b1, .int .u8 b2, .int .u8 b3] 30 (0, 0)) :=
    (HB3.out.block w.heap.size (by have := HB1.out.size; have := HB2.out.size; simp at *; omega)).trans hbox2
  have hbel : Below w.heap.size w w3 := by
    have z1 := below_then (below_alloc (Below.refl w.heap.size w) _) (by simp) HB1.out
    have z2 := below_then z1 z1.size HB2.out
    exact below_then z2 z2.size HB3.out
  have hv3 := Kd.R_below HV.out HB3.out
  have hgw : w.heap.size < g := by have := HG.out; have := HB1.out.size; simp at this; omega
  have HX := Aside0.mk hbox3
  have HB := Aside0.mk hbel
  have HV3 := Aside0.mk hv3
  clear hbox2 hbox3 hbel hv3 HB1 HB2 HB3 HV
  go_loopw [9, 10] (fun v9 v10 wr => ∃ k : Nat, k ≤ 4 ∧ v10 = .int .i64 k ∧ v9 = .bool (chg [b0, b1, b2, b3] k) ∧ Aside0 (Kd.R (Kd.int .u8) 5 wr w1.heap.size (fun _ => True) (.slice (some ⟨g, 0, none⟩) s.length c2) (turn s [b0, b1, b2, b3] p k)) ∧ Aside0 (Below w.heap.size w wr) ∧ Aside0 (wr.heap[w.heap.size]? = some (.cells #[.int .u8 b0, .int .u8 b1, .int .u8 b2, .int .u8 b3] 30 (0, 0)))) (fun _ v10 _ => 4 - (intOf v10).toNat)
  case atStart => exact ⟨0, by omega, rfl, rfl, HV3, HB, HX⟩
  case round =>
    clear HV3 HB HX
    obtain ⟨k, hk, rfl, rfl, HV, HB, HX⟩ := hrel
    by_cases hlt : k < 4
    · have hbk : wr.cell? ⟨w.heap.size, k, none⟩ = some (.int .u8 (rd [b0, b1, b2, b3] k)) := by
        rw [blk_cell HX.out k]
        rcases (by omega : k = 0 ∨ k = 1 ∨ k = 2 ∨ k = 3) with rfl | rfl | rfl | rfl <;> rfl
      have hvr : Kd.R (Kd.int .u8) 5 wr w1.heap.size (fun _ => True) (.slice (some ⟨g, 0, none⟩) (turn s [b0, b1, b2, b3] p k).length c2) (turn s [b0, b1, b2, b3] p k) := by
        rw [turn_length]; exact HV.out
      obtain ⟨hsk, hfk⟩ := Kd.R_cell (0 : Int) hvr ((p : Int) + (k : Int)) (by omega) (by rw [turn_length]; omega)
      have HP := Aside0.mk (Kd.R_put hvr ((p : Int) + (k : Int)) (Go.bits .xor .u8 (rd (turn s [b0, b1, b2, b3] p k) ((p : Int) + (k : Int))) (rd [b0, b1, b2, b3] k)))
      clear hvr
      have ea : ((p : Int) + (k : Int)).toNat = p + k := by omega
      rw [ea] at hsk hfk
      have hsk' : wr.cell? ⟨g, p + k, none⟩ = some (.int .u8 (rd (turn s [b0, b1, b2, b3] p k) ((p : Int) + (k : Int)))) := hsk
      clear hsk
      have EA := Aside0.mk ea
      clear ea
      go_wp2
      go_region
      generalize hW : World.drew (World.setCell wr _ _) = wn
      have hR1 : Kd.R (Kd.int .u8) 5 wn w1.heap.size (fun _ => True) (.slice (some ⟨g, 0, none⟩) s.length c2) (turn s [b0, b1, b2, b3] p (k + 1)) := by
        rw [← hW]
        have h1 := HP.out.1
        rw [EA.out, turn_length] at h1
        exact Kd.R_drew h1
      have hB1 : Below w.heap.size w wn := by
        rw [← hW]
        exact below_drew (HB.out.setCell (p := ⟨g, p + k, none⟩) (by show w.heap.size ≤ g; omega) _)
      have hX1 : wn.heap[w.heap.size]? = some (.cells #[.int .u8 b0, .int .u8 b1, .int .u8 b2, .int .u8 b3] 30 (0, 0)) := by
        rw [← hW]
        exact blk_far HX.out (p := ⟨g, p + k, none⟩) (by show w.heap.size ≠ g; omega) _
      have hbk2 : wn.cell? ⟨w.heap.size, k, none⟩ = some (.int .u8 (rd [b0, b1, b2, b3] k)) := by
        rw [blk_cell hX1 k]
        rcases (by omega : k = 0 ∨ k = 1 ∨ k = 2 ∨ k = 3) with rfl | rfl | rfl | rfl <;> rfl
      have HR1 := Aside0.mk hR1
      have HB1 := Aside0.mk hB1
      have HX1 := Aside0.mk hX1
      clear hW hR1 hB1 hX1 hsk' hfk hbk HP EA HV HB HX
      have hch : chg [b0, b1, b2, b3] (k + 1) = (chg [b0, b1, b2, b3] k || (rd [b0, b1, b2, b3] k != 0))   := by
        exact chg_succ _ k (by simp; omega)
      have HCH := Aside0.mk hch
      clear hch
      generalize chg [b0, b1, b2, b3] k = ck at HCH ⊢
      generalize rd [b0, b1, b2, b3] (k : Int) = bk at HCH hbk2 ⊢
      cases ck with
      | true =>
        go_wp2
        exact ⟨⟨k + 1, by omega, by go_num, by rw [HCH.out]; rfl, HR1, HB1, HX1⟩, by simp [intOf]; omega⟩
      | false =>
        by_cases hz : bk = 0
        · have z1 : (bk == 0) = true := beq_iff_eq.mpr hz
          have z2 : (bk != 0) = false := bne_eq_false_iff_eq.mpr hz
          have Z2 := Aside0.mk z2
          clear hz
          go_wp2
          exact ⟨⟨k + 1, by omega, by go_num, by rw [HCH.out, Z2.out]; rfl, HR1, HB1, HX1⟩, by simp [intOf]; omega⟩
        · have z1 : (bk == 0) = false := beq_eq_false_iff_ne.mpr hz
          have z2 : (bk != 0) = true := bne_iff_ne.mpr hz
          have Z2 := Aside0.mk z2
          clear hz
          go_wp2
          exact ⟨⟨k + 1, by omega, by go_num, by rw [HCH.out, Z2.out]; rfl, HR1, HB1, HX1⟩, by simp [intOf]; omega⟩
    · have hk4 : k = 4 := by omega
      have HK4 := Aside0.mk hk4
      clear hk4
      have hfew := HFEW.out
      rw [← HK4.out] at hfew
      have HF := Aside0.mk hfew
      have hcc := (Kd.R_reads' HV.out).2.2
      rw [turn_length] at hcc
      have HCC := Aside0.mk hcc
      clear hcc
      clear hfew
      go_wp2_with (go_at_call 14; refine (whole_at (some ⟨g, 0, none⟩) c2 (turn s [b0, b1, b2, b3] p k) _ _ (turn_length _ _ _ _) HCC.out (Kd.R_reads' HV.out).2.1 HF.out).mono ?_; rintro e w4 ⟨rfl, hb4⟩; have HB4 := Aside0.mk hb4; clear hb4)
      go_ret
      exact ⟨rfl, below_then HB.out HB.out.size HB4.out⟩
end Go.Proofs.Ytdkijmlfffnilaa.Few
