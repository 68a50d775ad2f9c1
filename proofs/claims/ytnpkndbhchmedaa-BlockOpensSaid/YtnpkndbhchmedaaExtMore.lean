/- What crc.made and crc.More come to: the walks of the table's making and of the sum. Of More: of bytes alone (each from 0 to 255). -/
import Derived.Test.YtnpkndbhchmedaaPa0
import Derived.Test.YtnpkndbhchmedaaPlain
namespace Go.Proofs.Ytnpkndbhchmedaa.Ext
set_option linter.unusedVariables false
open Go.RowKit Go.Proofs.YtnpkndbhchmedaaW.PrintWords Go.Proofs.YtnpkndbhchmedaaW.PrintLast Go.Proofs.YtnpkndbhchmedaaW.PrintMore
def Z256 : Array Value := Array.replicate 256 (.int .u32 0)
theorem Z256_size : Z256.size = 256 := by simp [Z256]
theorem zv57 (w : World) : (zeroValue 57).run Try.prog w = .ok (.agg Z256) w := by kernel_rfl

theorem and_one {n : Nat} (hn : n < 4294967296) : Go.bits BinOp.and IntKind.u32 (n : Int) 1 = ((n % 2 : Nat) : Int) := by
  have := u32_and_nat n 1 hn (by decide)
  rw [Nat.and_one_is_mod] at this
  exact this
theorem odd_yes {n : Nat} (hn : n < 4294967296) (h : n % 2 = 1) : (Go.bits BinOp.and IntKind.u32 (n : Int) 1 == 1) = true := by
  rw [and_one hn, h]; rfl
theorem odd_no {n : Nat} (hn : n < 4294967296) (h : ¬ n % 2 = 1) : (Go.bits BinOp.and IntKind.u32 (n : Int) 1 == 1) = false := by
  rw [and_one hn]; simp; omega

set_option maxRecDepth 100000 in
set_option maxHeartbeats 2000000 in
theorem made_any (w : World) : Calls Try.prog 39 #[] w fun e w' => ∃ g cs, e = .returned (.pointer (some ⟨g, 0, none⟩)) ∧ w' = w.alloc (.cells cs 57) ∧ g = w.heap.size ∧ cs.size = 256 ∧ ∀ i : Nat, i < 256 → cs[i]? = some (.int .u32 (tab i)) := by
  have hz := zv57
  go_enter Try.func39, Try.ntmps39
  go_wp2
  go_loopw [5] (fun v wr => ∃ (k : Nat) (cs : Array Value), k ≤ 256 ∧ v = .int .i64 k ∧ wr = w.alloc (.cells cs 57) ∧ cs.size = 256 ∧ ∀ i : Nat, i < k → cs[i]? = some (.int .u32 (tab i))) (fun v _ => 256 - (intOf v).toNat)
  case atStart => exact ⟨0, Z256, by omega, rfl, rfl, Z256_size, fun i hi => by omega⟩
  case round =>
    obtain ⟨k, cs, hk, rfl, rfl, hs, hc⟩ := hrel
    have HC := Aside0.mk hc
    clear hc
    have HS := Aside0.mk hs
    by_cases hlt : k < 256
    · clear hs
      have hk32 : k < 4294967296 := by omega
      go_wp2
      go_loop [3, 10] (fun n i => ∃ j : Nat, j ≤ 8 ∧ i = .int .i64 j ∧ n = .int .u32 (stps j k)) (fun _ i => 8 - (intOf i).toNat)
      case atStart => exact ⟨0, by omega, rfl, rfl⟩
      case round =>
        obtain ⟨j, hj, rfl, rfl⟩ := hrel
        have hb := stps_lt hk32 j
        by_cases hlt8 : j < 8
        · by_cases hp : stps j k % 2 = 1
          · have ho := odd_yes hb hp
            have hx := u32_xor_nat (stps j k / 2) 2197175160 (by omega) (by decide)
            have hst : stps (j + 1) k = (stps j k / 2) ^^^ 2197175160 := by rw [stps_succ, stp, if_pos hp]
            have HX := Aside0.mk hx
            have HP := Aside0.mk hp
            have HST := Aside0.mk hst
            clear hx hp hst
            go_wp2
            exact ⟨⟨j + 1, by omega, by go_num, by rw [HST.out, ← HX.out]; rfl⟩, by simp [intOf]; omega⟩
          · have ho := odd_no hb hp
            have hst : stps (j + 1) k = (stps j k / 2) := by rw [stps_succ, stp, if_neg hp]
            have HP := Aside0.mk hp
            have HST := Aside0.mk hst
            clear hp hst
            go_wp2
            exact ⟨⟨j + 1, by omega, by go_num, by rw [HST.out]; rfl⟩, by simp [intOf]; omega⟩
        · obtain rfl : j = 8 := by omega
          have hold : cs[k]? = some (cs[k]'(by rw [HS.out]; omega)) := by simp
          have hcell : (w.alloc (.cells cs 57)).cell? ⟨w.heap.size, k, none⟩ = some (cs[k]'(by rw [HS.out]; omega)) := (blk_cell (heap_alloc_new w _) k).trans hold
          clear hold
          go_wp2
          refine ⟨⟨k + 1, cs.setIfInBounds k (.int .u32 (stps 8 k)), by omega, by go_num, ?_, by simp [HS.out], fun i hi => ?_⟩, by simp [intOf]; omega⟩
          · simp
          · rw [Array.getElem?_setIfInBounds]
            by_cases e : k = i
            · subst e; rw [if_pos rfl, if_pos (by rw [HS.out]; omega)]; rfl
            · rw [if_neg e]; exact HC.out i (by omega)
    · obtain rfl : k = 256 := by omega
      go_wp2
      go_ret
      exact ⟨_, cs, rfl, rfl, rfl, HS.out, HC.out⟩

/-- What many bytes make of a sum. -/
def moreS (a : Int) (l : List Int) : Nat := feed ((a % 4294967296).toNat ^^^ 4294967295) l ^^^ 4294967295
def crc_More.f (a0 : Int) (l1 : List Int) : Option Int := if okB l1 = true then some (moreS a0 l1) else none

theorem take_snoc {l : List Int} {k : Nat} (h : k < l.length) : l.take (k + 1) = l.take k ++ [rd l k] := by
  rw [List.take_succ_eq_append_getElem h]; simp [rd, h]

set_option maxRecDepth 100000 in
set_option maxHeartbeats 4000000 in
theorem crc_More.calls (a0 : Int) (A1 : Option Addr) (c1 : Nat) (l1 : List Int) (r : Int) (w : World) (hr1 : Kd.C (Kd.int .u8) w A1 l1.length l1) (hc1 : l1.length ≤ c1) (h : crc_More.f a0 l1 = some r) :
    Calls Try.prog 36 #[.int .i64 a0, .slice A1 l1.length c1] w fun e w' => e = .returned (.int .i64 r) ∧ Below w.heap.size w w' := by
  unfold crc_More.f at h
  have hok : okB l1 = true := by
    by_cases h' : okB l1 = true
    · exact h'
    · rw [if_neg h'] at h; cases h
  rw [if_pos hok] at h
  obtain rfl := Option.some.inj h
  clear h
  have hmax : l1.length ≤ 9223372036854775807 := Kd.C_max hr1
  obtain ⟨n0, hn0⟩ : ∃ n0 : Nat, n0 = (a0 % 4294967296).toNat ^^^ 4294967295 := ⟨_, rfl⟩
  have hn32 : n0 < 4294967296 := by
    rw [hn0]
    exact Nat.xor_lt_two_pow (n := 32) (by omega) (by decide)
  have hx0 : Go.bits BinOp.xor IntKind.u32 (a0 % 4294967296) 4294967295 = (n0 : Int) := by
    have := u32_xor (a0 % 4294967296) 4294967295 (by omega) (by omega) (by decide) (by decide)
    rw [this, hn0]; rfl
  have HR := Aside0.mk hr1
  have HOK := Aside0.mk hok
  have HN0 := Aside0.mk hn0
  clear hr1 hok hn0
  go_enter Try.func36, Try.ntmps36
  go_wp2_with (go_at_call 39; refine (made_any _).mono ?_; rintro e w' ⟨g, cs, rfl, rfl, rfl, hs, hc⟩; have HS := Aside0.mk hs; have HC := Aside0.mk hc; clear hs hc)
  go_loop [6, 15] (fun n i => ∃ k : Nat, k ≤ l1.length ∧ i = .int .i64 k ∧ n = .int .u32 (feed n0 (l1.take k))) (fun _ i => l1.length - (intOf i).toNat)
  case atStart => exact ⟨0, by omega, rfl, by simp [feed]⟩
  case round =>
    obtain ⟨k, hk, rfl, rfl⟩ := hrel
    by_cases hlt : k < l1.length
    · obtain ⟨ad, rfl, hcell0⟩ := Kd.at_int (Kd.C_alloc HR.out (.cells cs 57)) (k : Int) (by omega) (by omega)
      obtain ⟨hc0, hc255⟩ := okB_at HOK.out (c := rd l1 k) (by simp [rd, hlt])
      obtain ⟨c, hc⟩ : ∃ c : Nat, rd l1 k = (c : Int) := ⟨(rd l1 k).toNat, by omega⟩
      have hc8 : c < 256 := by omega
      obtain ⟨n, hn⟩ : ∃ n, n = feed n0 (l1.take k) := ⟨_, rfl⟩
      have hnl : n < 4294967296 := by
        rw [hn]; refine feed_lt ?_ hn32
        have := HOK.out
        simp only [okB, List.all_eq_true] at this ⊢
        exact fun x hx => this x (List.mem_of_mem_take hx)
      have hst : feed n0 (l1.take (k + 1)) = byteMore n c := by rw [take_snoc hlt, feed_snoc, ← hn, hc]; rfl
      rw [← hn]
      have HN := Aside0.mk hn
      have HST := Aside0.mk hst
      clear hn hst hc0 hc255
      have hcell : (w.alloc (.cells cs 57)).cell? (ad.add k) = some (.int .u8 c) := by rw [← hc]; exact hcell0
      clear hcell0 hc
      obtain ⟨x, hx⟩ : ∃ x, x = (n % 256) ^^^ c := ⟨_, rfl⟩
      have hxl : x < 256 := by rw [hx]; exact Nat.xor_lt_two_pow (n := 8) (by omega) hc8
      have hx8 : Go.bits BinOp.xor IntKind.u8 ((n : Int) % 256) (c : Int) = (x : Int) := by
        have := u8_xor_nat (n % 256) c (by omega) hc8
        rw [hx]; exact this
      have HX := Aside0.mk hx
      clear hx
      have htab : (w.alloc (.cells cs 57)).cell? ⟨w.heap.size, x, none⟩ = some (.int .u32 (tab x)) := (blk_cell (heap_alloc_new w _) x).trans (HC.out x hxl)
      have hxr : Go.bits BinOp.xor IntKind.u32 (tab x : Int) ((n : Int) / 256) = ((tab x ^^^ (n / 256) : Nat) : Int) := by
        have := u32_xor_nat (tab x) (n / 256) (stps_lt (by omega) 8) (by omega)
        exact this
      go_wp2
      exact ⟨⟨k + 1, by omega, by go_num, by rw [HST.out, byteMore, ← HX.out]⟩, by simp [intOf]; omega⟩
    · obtain rfl : k = l1.length := by omega
      rw [List.take_length]
      obtain ⟨n, hn⟩ : ∃ n, n = feed n0 l1 := ⟨_, rfl⟩
      have hnl : n < 4294967296 := by rw [hn]; exact feed_lt HOK.out hn32
      obtain ⟨m, hm⟩ : ∃ m, m = n ^^^ 4294967295 := ⟨_, rfl⟩
      have hml : m < 4294967296 := by rw [hm]; exact Nat.xor_lt_two_pow (n := 32) hnl (by decide)
      have hS : moreS a0 l1 = m := by rw [hm, hn, HN0.out]; rfl
      have hxe : Go.bits BinOp.xor IntKind.u32 (n : Int) 4294967295 = (m : Int) := by
        have := u32_xor_nat n 4294967295 hnl (by decide)
        rw [hm]; exact this
      rw [← hn]
      have HSS := Aside0.mk hS
      clear hn hm hS
      go_wp2
      go_ret
      exact ⟨by rw [HSS.out]; rfl, (Below.refl _ _).alloc (Nat.le_refl _) _⟩
end Go.Proofs.Ytnpkndbhchmedaa.Ext
