/- What slices.Grow of nothing, slices.Concat and crc.Seal come to. -/
import Derived.Test.YtnpkndbhchmedaaPa1
namespace Go.Proofs.Ytnpkndbhchmedaa.Ext
set_option linter.unusedVariables false
open Go.RowKit Go.Proofs.YtnpkndbhchmedaaW.PrintWords Go.Proofs.YtnpkndbhchmedaaW.PrintLast Go.Proofs.YtnpkndbhchmedaaW.PrintMore
theorem infoE5 : (Try.prog.info? 5).map (fun i => (i.zero, i.size, i.bytes)) = some (some (.int .u8 0), 1, 1) := by kernel_rfl

/-- What 'for all' an element of a row of rows is. -/
theorem at_row {α : Type} {d : Kd α} {e : Nat} {w : World} {A : Option Addr} {n : Nat} {xs : List (List α)} (h : Kd.C (Kd.slice e d) w A n xs) (i : Nat) (h1 : i < n) :
    ∃ ad A0 c0, A = some ad ∧ w.cell? (ad.add i) = some (.slice A0 (xs.getD i []).length c0) ∧ (xs.getD i []).length ≤ c0 ∧ d.C w A0 (xs.getD i []).length (xs.getD i []) := by
  obtain ⟨ad, c, e, _, hK, hc0⟩ := Kd.C_get h ([] : List α) (i : Int) (by omega) (by omega)
  have hc : ∀ j u, c[j]? = some u → w.cell? (ad.add ((i : Int).toNat * 1 + j)) = some u := hc0
  obtain ⟨A0, c0, rfl, l0, g0⟩ := hK
  exact ⟨ad, A0, c0, e, by have hq := hc 0 _ rfl; rwa [Nat.mul_one, Nat.add_zero] at hq, l0, g0⟩

set_option maxRecDepth 100000 in
set_option maxHeartbeats 2000000 in
theorem grow_nil (n : Int) (w : World) (h0 : 0 ≤ n) (hn : n * 1 ≤ 140737488355328) : Calls Try.prog 37 #[.slice none 0 0, .int .i64 n] w fun e w' =>
    ∃ v, e = .returned v ∧ Kd.R (Kd.int .u8) 5 w' w.heap.size (fun _ => True) v [] ∧ Below w.heap.size w w' := by
  have hneg : decide (n < 0) = false := decide_eq_false (by omega)
  obtain ⟨i5, hi5, _⟩ := Option.map_eq_some_iff.1 infoE5
  by_cases hp : 0 < n
  · go_enter Try.func37, Try.ntmps37
    go_wp2_with ((with_reducible refine gate_builtin (b := .append) (xs := #[.tmp 20, .tmp 21]) rfl ?_); at_builtin; refine Kd.R_append_zeros (Kd.int .u8) (w0 := w) w.heap.size rfl (.tmp 20) (.tmp 21) 22 3 5 (.int .u8 0) 1 rfl Try.underlying22 Try.underlying3 infoE5 rfl (by decide) (by omega) (.slice none 0 0) ([] : List Int) (0 : Int) n (fun _ => True) rfl rfl rfl ?aF ?aO h0 ?aB ?aS ?aL ?_; (case aF => exact fun _ _ => trivial); (case aO => exact Kd.R_nil _ _ _ _ _); (case aB => exact Below.refl _ _); (case aS => exact Nat.le_refl _); (case aL => simp; omega); intro v w2 ho hb hg hat; obtain ⟨A, c, rfl, hlc, hC⟩ := Kd.R_reads ho; have hcut := (cut_to (P := Try.prog) 22 5 .i64 Try.underlying22 hi5 A ([] ++ List.replicate n.toNat (0 : Int)).length c 0 (by omega) (by omega) hlc); clear hC)
    go_ret
    exact ⟨_, rfl, Kd.R_take ho (Nat.zero_le _), hb⟩
  · obtain rfl : n = 0 := by omega
    go_enter Try.func37, Try.ntmps37
    go_wp2
    go_ret
    exact ⟨_, rfl, Kd.R_nil _ _ _ _ _, Below.refl _ _⟩

/-- How many there are in a row of rows. -/
def tot {α : Type} (l : List (List α)) : Nat := l.flatten.length
theorem tot_succ {α : Type} {l : List (List α)} {k : Nat} (h : k < l.length) : l.take (k + 1) = l.take k ++ [l.getD k []] := by
  rw [List.take_succ_eq_append_getElem h]; simp [h]
theorem tot_snoc {α : Type} {l : List (List α)} {k : Nat} (h : k < l.length) : tot (l.take (k + 1)) = tot (l.take k) + (l.getD k []).length := by
  rw [tot_succ h]; simp [tot]
theorem tot_le {α : Type} (l : List (List α)) (k : Nat) : tot (l.take k) ≤ tot l := by
  have : tot l = tot (l.take k) + tot (l.drop k) := by
    conv => lhs; rw [← List.take_append_drop k l]
    rw [tot, List.flatten_append, List.length_append]; rfl
  omega

set_option maxRecDepth 100000 in
set_option maxHeartbeats 4000000 in
theorem concat_any (A0 : Option Addr) (c0 : Nat) (l0 : List (List Int)) (w : World) (hr0 : Kd.C (Kd.slice 5 (Kd.int .u8)) w A0 l0.length l0) (hl : tot l0 * 1 ≤ 140737488355328) :
    Calls Try.prog 34 #[.slice A0 l0.length c0] w fun e w' => ∃ v, e = .returned v ∧ Kd.R (Kd.int .u8) 5 w' w.heap.size (fun _ => True) v l0.flatten ∧ Below w.heap.size w w' := by
  have hmax : l0.length ≤ 9223372036854775807 := Kd.C_max hr0
  have HR := Aside0.mk hr0
  clear hr0
  go_enter Try.func34, Try.ntmps34
  go_wp2
  go_loop [3, 11] (fun s i => ∃ k : Nat, k ≤ l0.length ∧ i = .int .i64 k ∧ s = .int .i64 (tot (l0.take k))) (fun _ i => l0.length - (intOf i).toNat)
  case atStart => exact ⟨0, by omega, rfl, by simp [tot]⟩
  case round =>
    obtain ⟨k, hk, rfl, rfl⟩ := hrel
    by_cases hlt : k < l0.length
    · obtain ⟨ad, A1, c1, rfl, hcell, hlc, hC⟩ := at_row HR.out k hlt
      have HC := Aside0.mk hC
      have hs := tot_snoc hlt
      have hle := tot_le l0 (k + 1)
      obtain ⟨m, hm⟩ : ∃ m, m = (l0.getD k []).length := ⟨_, rfl⟩
      obtain ⟨q, hq⟩ : ∃ q, q = tot (l0.take k) := ⟨_, rfl⟩
      rw [← hm] at hs hcell
      rw [← hq] at hs ⊢
      have hqm : q + m ≤ 140737488355328 := by omega
      have HS := Aside0.mk hs
      clear hC hs hle hm hq
      have hneg : decide ((q : Int) + (m : Int) < 0) = false := decide_eq_false (by omega)
      go_wp2
      exact ⟨⟨k + 1, by omega, by go_num, by rw [HS.out]; go_num⟩, by simp [intOf]; omega⟩
    · obtain rfl : k = l0.length := by omega
      rw [List.take_length]
      go_wp2_with (go_at_call 37; refine (grow_nil _ _ (by omega) (by omega)).mono ?_; rintro e w1 ⟨v, rfl, hv, hb⟩; have HV := Aside0.mk hv; have HB := Aside0.mk hb; clear hv hb)
      go_loopw [6, 27] (fun v i wr => ∃ k : Nat, k ≤ l0.length ∧ i = .int .i64 k ∧ Aside0 (Kd.R (Kd.int .u8) 5 wr w.heap.size (fun _ => True) v (l0.take k).flatten) ∧ Aside0 (Below w.heap.size w wr)) (fun _ i _ => l0.length - (intOf i).toNat)
      case atStart => exact ⟨0, by omega, rfl, ⟨by simpa using HV.out⟩, HB⟩
      case round =>
        clear HV HB
        obtain ⟨k, hk, rfl, HV, HB⟩ := hrel
        by_cases hlt : k < l0.length
        · obtain ⟨ad, A1, c1, rfl, hcell, hlc, hC⟩ := at_row (Kd.C_below HR.out HB.out) k hlt
          have HC := Aside0.mk hC
          have hs := tot_snoc hlt
          have hle := tot_le l0 (k + 1)
          have hft : (l0.take (k + 1)).flatten = (l0.take k).flatten ++ l0.getD k [] := by rw [tot_succ hlt, List.flatten_append, List.flatten_singleton]
          have hlen : (l0.take k).flatten.length + (l0.getD k []).length ≤ 140737488355328 := by have : (l0.take k).flatten.length = tot (l0.take k) := rfl; omega
          have HF := Aside0.mk hft
          have HL := Aside0.mk hlen
          obtain ⟨m, hm⟩ : ∃ m, m = (l0.getD k []).length := ⟨_, rfl⟩
          rw [← hm] at hcell hlc
          have HM := Aside0.mk hm
          clear hC hs hle hft hlen hm
          go_wp2_with ((with_reducible refine gate_builtin (b := .append) (xs := #[.tmp 31, .tmp 32]) rfl ?_); at_builtin; refine Kd.R_append_rows (Kd.int .u8) (w0 := w) w.heap.size rfl (.tmp 31) (.tmp 32) 22 5 (.int .u8 0) 1 rfl Try.underlying22 infoE5 rfl (by decide) (by omega) _ (l0.take k).flatten (l0.getD k []) _ _ _ (fun _ => True) (fun _ => False) rfl rfl ?aO ?aR (fun _ _ h => h) (fun _ h => h.elim) ?aF ?aB ?aS ?aL ?_; (case aF => exact fun _ _ => trivial); (case aO => exact HV.out); (case aR => rw [HM.out]; exact HC.out); (case aB => exact HB.out); (case aS => exact HB.out.size); (case aL => have := HL.out; have := HM.out; omega); intro v1 w2 ho hb hg hat; have HO := Aside0.mk ho; have HB2 := Aside0.mk hb; clear ho hb hg hat)
          exact ⟨⟨k + 1, by omega, by go_num, ⟨by rw [HF.out]; exact HO.out⟩, HB2⟩, by simp [intOf]; omega⟩
        · obtain rfl : k = l0.length := by omega
          rw [List.take_length] at HV
          go_wp2
          go_ret
          exact ⟨_, rfl, HV.out, HB.out⟩

/-- A row of two rows that was just laid. -/
theorem C_two {α : Type} {d : Kd α} {e : Nat} {w : World} {A0 A1 : Option Addr} {c0 c1 : Nat} {x y : List α} {t : TypeId} (h0 : d.C w A0 x.length x) (hc0 : x.length ≤ c0) (h1 : d.C w A1 y.length y) (hc1 : y.length ≤ c1) :
    Kd.C (Kd.slice e d) (w.alloc (.cells #[.slice A0 x.length c0, .slice A1 y.length c1] t)) (some ⟨w.heap.size, 0, none⟩) 2 [x, y] := by
  refine ⟨rfl, by omega, fun _ => ⟨_, rfl, fun j p hj => ?_⟩⟩
  have hb := heap_alloc_new w (.cells #[.slice A0 x.length c0, .slice A1 y.length c1] t)
  match j, hj with
  | 0, hj =>
    obtain rfl : x = p := by simpa using hj
    refine ⟨[.slice A0 x.length c0], rfl, ⟨A0, c0, rfl, hc0, Kd.C_alloc h0 _⟩, fun i u hu => ?_⟩
    match i, hu with
    | 0, hu =>
      obtain rfl : Value.slice A0 x.length c0 = u := by simpa using hu
      exact (blk_cell hb 0).trans rfl
    | i + 1, hu => simp at hu
  | 1, hj =>
    obtain rfl : y = p := by simpa using hj
    refine ⟨[.slice A1 y.length c1], rfl, ⟨A1, c1, rfl, hc1, Kd.C_alloc h1 _⟩, fun i u hu => ?_⟩
    match i, hu with
    | 0, hu =>
      obtain rfl : Value.slice A1 y.length c1 = u := by simpa using hu
      exact (blk_cell hb 1).trans rfl
    | i + 1, hu => simp at hu
  | j + 2, hj => simp at hj
theorem concat_at {n : Nat} (A0 : Option Addr) (c0 : Nat) (l0 : List (List Int)) (w : World) (hn : l0.length = n) (hr0 : Kd.C (Kd.slice 5 (Kd.int .u8)) w A0 n l0) (hl : tot l0 * 1 ≤ 140737488355328) :
    Calls Try.prog 34 #[.slice A0 n c0] w fun e w' => ∃ v, e = .returned v ∧ Kd.R (Kd.int .u8) 5 w' w.heap.size (fun _ => True) v l0.flatten ∧ Below w.heap.size w w' := by
  subst hn
  exact concat_any A0 c0 l0 w hr0 hl

/-- The four digits of a sum, the lowest first. -/
def le4 (s : Int) : List Int := [s % 256, s / 256 % 256, s / 256 / 256 % 256, s / 256 / 256 / 256 % 256]
theorem four_f (s : Int) : Pa.crc_four.f 5 s = some (le4 s) := by
  unfold Pa.crc_four.f
  simp only [Pa.crc_four.l0]
  simp [le4, wrap64]
def crc_Seal.f (l0 : List Int) : Option (List Int) := if okB l0 = true ∧ l0.length + 4 ≤ 140737488355328 then some (l0 ++ le4 (moreS 0 l0)) else none

set_option maxRecDepth 100000 in
set_option maxHeartbeats 4000000 in
theorem crc_Seal.calls (A0 : Option Addr) (c0 : Nat) (l0 : List Int) (r : List Int) (w : World) (hr0 : Kd.C (Kd.int .u8) w A0 l0.length l0) (hc0 : l0.length ≤ c0) (h : crc_Seal.f l0 = some r) :
    Calls Try.prog 26 #[.slice A0 l0.length c0] w fun e w' => ∃ v0_ : Value, e = .returned (v0_) ∧ Kd.R (Kd.int .u8) 5 w' w.heap.size (fun _ => True) v0_ r ∧ Below w.heap.size w w' := by
  unfold crc_Seal.f at h
  by_cases hh : okB l0 = true ∧ l0.length + 4 ≤ 140737488355328
  case neg => rw [if_neg hh] at h; cases h
  rw [if_pos hh] at h
  obtain ⟨hok, hlen⟩ := hh
  obtain rfl := Option.some.inj h
  clear h
  have hsum : Pa.crc_Sum.f l0 = some (moreS 0 l0) := by simp [Pa.crc_Sum.f, crc_More.f, hok]
  have HSUM := Aside0.mk hsum
  have HR := Aside0.mk hr0
  clear hsum hok hr0
  go_enter Try.func26, Try.ntmps26
  go_wp2_with (first | (go_at_call 32; refine (Pa.crc_Sum.calls A0 c0 l0 _ _ HR.out hc0 HSUM.out).mono ?_; rintro e w1 ⟨rfl, hb⟩; have HB := Aside0.mk hb; clear hb) | (go_at_call 31; refine (Pa.crc_four.calls 5 _ _ _ (four_f _)).mono ?_; rintro e w2 ⟨v, rfl, hv, hb2⟩; have HV := Aside0.mk hv; have HB2 := Aside0.mk hb2; clear hv hb2; obtain ⟨A2, c2, rfl, hlc2, hC2⟩ := Kd.R_reads HV.out; have HC2 := Aside0.mk hC2; clear hC2))
  refine (concat_at _ _ [l0, le4 (moreS 0 l0)] _ rfl (C_two (Kd.C_below (Kd.C_below HR.out HB.out) HB2.out) hc0 HC2.out hlc2) (by simp [tot, le4]; omega)).mono ?_
  rintro e w3 ⟨v3, rfl, hv3, hb3⟩
  go_wp2
  go_ret
  refine ⟨_, rfl, ?_, ?_⟩
  · have := Kd.R_lower hv3 (base' := w.heap.size) (by have := HB.out.size; have := HB2.out.size; simp; omega)
    simpa using this
  · exact below_then (HB.out) HB.out.size (below_then HB2.out HB2.out.size (below_then ((Below.refl _ _).alloc (Nat.le_refl _) _) (by simp) hb3))
end Go.Proofs.Ytnpkndbhchmedaa.Ext
