/- The number that stands next, and how many digits it has. No conditions beside those that each theorem states. -/
import Derived.Test.YtamgeophebillaaCodeMem
namespace Go.Proofs.Ytamgeophebillaa.Code
open Go.RowKit Go.Proofs.Ytamgeophebillaa.Pa Go.Proofs.YtamgeophebillaaW.PrintWords Go.Proofs.YtamgeophebillaaW.PrintLast Go.Proofs.YtamgeophebillaaW.PrintMore
set_option linter.unusedVariables false

structure Seen where
  n : Nat
  long : Nat
  e : Int
deriving DecidableEq
/-- From the k-th digit on, n being what the digits ahead of it came to. -/
def look (k n : Nat) : List Int → Seen
  | [] => ⟨0, 0, 6⟩
  | d :: r => if k = 9 ∧ 1 < d then ⟨0, 0, 7⟩ else if 128 ≤ d then look (k + 1) (n + (d - 128).toNat * 128 ^ k) r else if d = 0 ∧ 0 < k then ⟨0, 0, 7⟩ else ⟨n + d.toNat * 128 ^ k, k + 1, 0⟩
def Bytes (bs : List Int) : Prop := ∀ x ∈ bs, 0 ≤ x ∧ x < 256
theorem Bytes.rd {bs : List Int} (h : Bytes bs) {k : Nat} (hk : k < bs.length) : 0 ≤ rd bs k ∧ rd bs k < 256 := by
  have e : Go.Proofs.YtamgeophebillaaW.PrintWords.rd bs k = bs[k] := by simp [Go.Proofs.YtamgeophebillaaW.PrintWords.rd, hk]
  rw [e]
  exact h _ (List.getElem_mem hk)
theorem drop_rd {bs : List Int} {k : Nat} (hk : k < bs.length) : bs.drop k = rd bs k :: bs.drop (k + 1) := by
  rw [List.drop_eq_getElem_cons hk]
  simp [rd, hk]
theorem u64_step {n d sc : Int} (h0 : 0 ≤ n) (h1 : n < sc) (h2 : 0 ≤ d) (h3 : (d + 1) * sc ≤ 18446744073709551616) : 0 ≤ d * sc ∧ n + d * sc < 18446744073709551616 := by
  have e : (d + 1) * sc = d * sc + sc := by rw [Int.add_mul, Int.one_mul]
  have : 0 ≤ d * sc := Int.mul_nonneg h2 (by omega)
  omega

theorem u64_id {x : Int} (h0 : 0 ≤ x) (h1 : x < 18446744073709551616) : IntKind.u64.wrap x = x := by
  simp [IntKind.wrap, IntKind.bits, IntKind.signed]
  omega
theorem pow_small {k : Nat} (h : k ≤ 8) : (128 : Nat) ^ k ≤ 72057594037927936 := Nat.le_trans (Nat.pow_le_pow_right (by decide) h) (by decide)
theorem look_fin {m d S : Int} {n k : Nat} (hm : m = (n : Int)) (hS : S = ((128 ^ k : Nat) : Int)) (hn : n < 128 ^ k) (hd : 0 ≤ d) (hb : (d + 1) * S ≤ 18446744073709551616) : IntKind.u64.wrap (m + IntKind.u64.wrap (d * S)) = ((n + d.toNat * 128 ^ k : Nat) : Int) := by
  obtain ⟨h0, h1⟩ := u64_step (n := m) (d := d) (sc := S) (by omega) (by omega) hd hb
  rw [u64_id h0 (by omega), u64_id (by omega) h1, hm, hS, Int.natCast_add, Int.natCast_mul, Int.toNat_of_nonneg hd]
theorem bound_nine {d S : Int} {k : Nat} (hS : S = ((128 ^ k : Nat) : Int)) (hk : k = 9) (h0 : 0 ≤ d) (hd : d ≤ 1) : (d + 1) * S ≤ 18446744073709551616 := by
  subst hk
  have : S = 9223372036854775808 := by rw [hS]; rfl
  rw [this]
  omega
theorem bound_less {d S : Int} {k : Nat} (hS : S = ((128 ^ k : Nat) : Int)) (hk : k ≤ 8) (h0 : 0 ≤ d) (hd : d < 128) : (d + 1) * S ≤ 18446744073709551616 := by
  have h := pow_small hk
  have h2 : S ≤ 72057594037927936 := by rw [hS]; omega
  clear h
  have : (d + 1) * S ≤ 128 * S := Int.mul_le_mul_of_nonneg_right (by omega) (by rw [hS]; exact Int.natCast_nonneg _)
  omega
theorem look_next {d n k : Nat} (hn : n < 128 ^ k) (hd : d < 128) : n + d * 128 ^ k < 128 ^ (k + 1) := by
  have : (d + 1) * 128 ^ k ≤ 128 * 128 ^ k := Nat.mul_le_mul_right _ (by omega)
  rw [Nat.add_mul, Nat.one_mul] at this
  rw [Nat.pow_succ]
  omega

set_option maxRecDepth 100000 in
set_option maxHeartbeats 8000000 in
theorem look_any (g : Nat) (A : Option Addr) (cap : Nat) (bs : List Int) (w : World) (h : w.cell? ⟨g, 0, none⟩ = some (.slice A bs.length cap)) (hC : Kd.C (Kd.int .u8) w A bs.length bs) (hb : Bytes bs) :
    Calls Try.prog 32 #[.pointer (some ⟨g, 0, none⟩)] w fun e w' => e = .returned (.tuple #[.int .u64 ((look 0 0 bs).n : Int), .int .i64 ((look 0 0 bs).long : Int), .int .i64 (look 0 0 bs).e]) ∧ w' = w := by
  have HC := Aside0.mk hC
  have HB := Aside0.mk hb
  have hmax := Kd.C_max hC
  obtain ⟨r, hr⟩ : ∃ r, r = look 0 0 bs := ⟨_, rfl⟩
  rw [← hr]
  have HR := Aside0.mk hr
  clear hC hb hr
  go_enter Try.func32, Try.ntmps32
  go_wp2
  go_loop [5, 6, 16] (fun vn vs vi => ∃ k n : Nat, vi = .int .i64 (k : Int) ∧ vn = .int .u64 (n : Int) ∧ vs = .int .u64 ((128 ^ k : Nat) : Int) ∧ k ≤ 9 ∧ k ≤ bs.length ∧ n < 128 ^ k ∧ Aside0 (r = look k n (bs.drop k))) (fun _ _ i => bs.length - (intOf i).toNat)
  case atStart => exact ⟨0, 0, rfl, rfl, rfl, by omega, by omega, by simp, ⟨HR.out⟩⟩
  case round =>
    obtain ⟨k, n, rfl, rfl, rfl, hk9, hkl, hn, HL⟩ := hrel
    obtain ⟨z, hz⟩ : ∃ z : Int, z = (k : Int) := ⟨_, rfl⟩
    obtain ⟨m, hm⟩ : ∃ m : Int, m = (n : Int) := ⟨_, rfl⟩
    obtain ⟨S, hS⟩ : ∃ S : Int, S = ((128 ^ k : Nat) : Int) := ⟨_, rfl⟩
    have HZ := Aside0.mk (And.intro hz (And.intro hm (And.intro hS (And.intro hk9 (And.intro hkl hn)))))
    have hS0 : 0 < 128 ^ k := Nat.pow_pos (by decide)
    rw [← hz, ← hm, ← hS]
    have z0 : 0 ≤ z := by omega
    have z9 : z ≤ 9 := by omega
    have m0 : 0 ≤ m := by omega
    have m1 : m < S := by omega
    have S0 : 0 < S := by omega
    have hk10 : (z == 10) = false := by simp; omega
    by_cases hk : k < bs.length
    · have hd := HB.out.rd hk
      have hdr := drop_rd hk
      have hL := HL.out
      rw [hdr] at hL
      have p1 : z < (bs.length : Int) := by omega
      rw [← hz] at hd hL
      obtain ⟨ad, eA, hx⟩ := Kd.at_int HC.out z z0 p1
      cases eA
      obtain ⟨d, hdd⟩ : ∃ d, d = rd bs z := ⟨_, rfl⟩
      rw [← hdd] at hd hx hL
      obtain ⟨hd0, hd1⟩ := hd
      clear hdr HL hdd hz hm hS hk9 hkl hn hS0
      by_cases h9 : k = 9
      · have H9 := Aside0.mk h9
        have hz9 : (z == 9) = true := by have := HZ.out.1; simp; omega
        by_cases h1 : 1 < d
        · rw [look, if_pos ⟨h9, h1⟩] at hL
          subst hL
          clear h9 hk
          go_wp2
          go_ret3
          exact ⟨rfl, rfl⟩
        · rw [look, if_neg (fun h => h1 h.2)] at hL
          have h128 : d < 128 := by omega
          rw [if_neg (by omega)] at hL
          have hkp : 0 < z := by have := HZ.out.1; omega
          have h1' : d ≤ 1 := by omega
          by_cases hz : d = 0
          · rw [if_pos ⟨hz, by omega⟩] at hL
            subst hL
            have hd : (d == 0) = true := by simp [hz]
            clear h9 hk hz
            go_wp2
            go_ret3
            exact ⟨rfl, rfl⟩
          · rw [if_neg (fun h => hz h.1)] at hL
            have HLL := Aside0.mk hL
            clear hL
            have hd : (d == 0) = false := by simp [hz]
            clear h9 hk hz
            go_wp2
            go_ret3
            obtain ⟨ez, em, eS, ek, el, en⟩ := HZ.out
            refine ⟨?_, rfl⟩
            rw [HLL.out]
            show Ending.returned (.tuple #[.int .u64 _, .int .i64 _, .int .i64 0]) = _
            rw [look_fin em eS en hd0 (bound_nine eS (by have := H9.out; exact this) hd0 h1'), ez]
            rfl
      · have H9 := Aside0.mk h9
        have hz9 : (z == 9) = false := by have := HZ.out.1; simp; omega
        by_cases h128 : 128 ≤ d
        · rw [look, if_neg (fun h => h9 h.1), if_pos h128] at hL
          have HLL := Aside0.mk hL
          have HK := Aside0.mk hk
          clear hk h9 hL
          go_wp2
          obtain ⟨ez, em, eS, ek, el, en⟩ := HZ.out
          have hk := HK.out
          have h8 : k ≤ 8 := by have := H9.out; omega
          have hpw : S * 128 = ((128 ^ (k + 1) : Nat) : Int) := by rw [eS, Nat.pow_succ, Int.natCast_mul]; rfl
          have hpb := pow_small h8
          refine ⟨⟨k + 1, n + (d - 128).toNat * 128 ^ k, by rw [ez]; rfl, ?_, ?_, by omega, by omega, look_next en (by omega), ⟨HLL.out⟩⟩, ?_⟩
          · rw [look_fin em eS en (by omega) (bound_less eS h8 (by omega) (by omega))]
          · rw [u64_id (by omega) (by omega), hpw]
          · simp [intOf]
            omega
        · have h128' : d < 128 := by omega
          rw [look, if_neg (fun h => h9 h.1), if_neg h128] at hL
          by_cases hz : d = 0
          · have hd : (d == 0) = true := by simp [hz]
            by_cases hk0 : 0 < k
            · have hkp : 0 < z := by have := HZ.out.1; omega
              rw [if_pos ⟨hz, hk0⟩] at hL
              subst hL
              clear h9 hk hz hk0
              go_wp2
              go_ret3
              exact ⟨rfl, rfl⟩
            · have hkp : z ≤ 0 := by have := HZ.out.1; omega
              rw [if_neg (fun h => hk0 h.2)] at hL
              have HLL := Aside0.mk hL
              clear hL
              clear h9 hk hz hk0
              go_wp2
              go_ret3
              obtain ⟨ez, em, eS, ek, el, en⟩ := HZ.out
              refine ⟨?_, rfl⟩
              rw [HLL.out]
              show Ending.returned (.tuple #[.int .u64 _, .int .i64 _, .int .i64 0]) = _
              rw [look_fin em eS en hd0 (bound_less eS (by have := H9.out; omega) hd0 h128'), ez]
              rfl
          · have hd : (d == 0) = false := by simp [hz]
            rw [if_neg (fun h => hz h.1)] at hL
            have HLL := Aside0.mk hL
            clear hL
            clear h9 hk hz
            go_wp2
            go_ret3
            obtain ⟨ez, em, eS, ek, el, en⟩ := HZ.out
            refine ⟨?_, rfl⟩
            rw [HLL.out]
            show Ending.returned (.tuple #[.int .u64 _, .int .i64 _, .int .i64 0]) = _
            rw [look_fin em eS en hd0 (bound_less eS (by have := H9.out; omega) hd0 h128'), ez]
            rfl
    · rw [List.drop_eq_nil_of_le (by omega)] at HL
      have hL := HL.out
      rw [look] at hL
      subst hL
      have p1 : (bs.length : Int) ≤ z := by omega
      clear HL hz hm hS hk9 hkl hn hS0 hk
      go_wp2
      go_ret3
      exact ⟨rfl, rfl⟩
end Go.Proofs.Ytamgeophebillaa.Code
