/- The reference's gets come to what is got: the plain law. No program in sight. -/
import Derived.Test.YtgdelfckhcgnhaaReqTold
import Derived.Test.YtgdelfckhcgnhaaPa3
import Derived.Deep.QuietTactic
import Derived.BigQuiet
import Derived.IntWalk
import Derived.Deep.RegionLaw
import Derived.Outline
namespace Go.Proofs.Ytgdelfckhcgnhaa.Code
open Go.RowKit Go.Proofs.Ytgdelfckhcgnhaa.Pa Go.Proofs.YtgdelfckhcgnhaaW.PrintWords Go.Proofs.YtgdelfckhcgnhaaW.PrintLast Go.Proofs.YtgdelfckhcgnhaaW.PrintMore
set_option linter.unusedVariables false

theorem w64 {x : Int} (h0 : -9223372036854775808 ≤ x) (h1 : x < 9223372036854775808) : wrap64 x = x := by unfold wrap64; omega
theorem wi {i : Nat} (h : i < 1000000000000) : wrap64 ((i : Int) + 1) = ((i + 1 : Nat) : Int) := by unfold wrap64; omega
theorem wm {r : Int} (h0 : 0 ≤ r) (h1 : r < 256) : wrap64 (Int.tmod r 128) = r % 128 := by
  rw [Int.tmod_eq_emod_of_nonneg h0]; unfold wrap64; omega
theorem run_l {l : List Int} (hb : Bytes l) (d : Nat) : ∀ (k i m : Nat), i + d = l.length → 2 * d < k → i ≤ 9 →
    quartermasterref05_run.l0 k l i = some (((look i m (l.drop i)).long : Int), (look i m (l.drop i)).e) := by
  induction d with
  | zero =>
    intro k i m h hk hi
    obtain ⟨k, rfl⟩ : ∃ j, k = j + 1 := ⟨k - 1, by omega⟩
    simp only [quartermasterref05_run.l0]
    rw [if_neg (by omega), List.drop_of_length_le (by omega)]
    rfl
  | succ d ih =>
    intro k i m h hk hi
    obtain ⟨k, rfl⟩ : ∃ j, k = j + 1 + 1 := ⟨k - 2, by omega⟩
    have hlt : i < l.length := by omega
    obtain ⟨r0, r1⟩ := hb.rd hlt
    have e6 : wrap64 ((i : Int) + 1) = ((i + 1 : Nat) : Int) := by unfold wrap64; omega
    rw [drop_rd hlt, look]
    simp only [quartermasterref05_run.l0]
    rw [if_pos (by omega), if_neg (by omega)]
    have hj : quartermasterref05_run.j1 (k + 1) l i false = some (((if 128 ≤ rd l i then look (i + 1) (m + (rd l i - 128).toNat * 128 ^ i) (l.drop (i + 1)) else if rd l i = 0 ∧ 0 < i then ⟨0, 0, 7⟩ else ⟨m + (rd l i).toNat * 128 ^ i, i + 1, 0⟩ : Seen).long : Int), (if 128 ≤ rd l i then look (i + 1) (m + (rd l i - 128).toNat * 128 ^ i) (l.drop (i + 1)) else if rd l i = 0 ∧ 0 < i then ⟨0, 0, 7⟩ else ⟨m + (rd l i).toNat * 128 ^ i, i + 1, 0⟩ : Seen).e) ∨ (i = 9 ∧ 1 < rd l i) := by
      by_cases h9 : i = 9 ∧ 1 < rd l i
      · exact .inr h9
      · refine .inl ?_
        simp only [quartermasterref05_run.j1]
        rw [if_neg (by simp), if_pos (by omega), if_pos (by omega)]
        by_cases h1 : 128 ≤ rd l i
        · rw [if_neg (by omega), if_pos h1, e6, ih k (i + 1) (m + (rd l i - 128).toNat * 128 ^ i) (by omega) (by omega) (by omega)]
        · rw [if_pos (by omega), if_neg h1]
          by_cases h2 : rd l i = 0
          · rw [if_pos h2]
            by_cases h3 : 0 < i
            · rw [if_pos (by omega), if_pos ⟨h2, h3⟩]; rfl
            · rw [if_neg (by omega), if_neg (fun h => h3 h.2), e6]
          · rw [if_neg h2, if_neg (fun h => h2 h.1), e6]
    by_cases h9 : i = 9
    · rw [if_pos (by omega), if_pos (by omega)]
      by_cases h1 : 1 < rd l i
      · rw [if_pos ⟨h9, h1⟩, show decide (rd l (i : Int) > 1) = true from decide_eq_true h1]
        simp only [quartermasterref05_run.j1]
        rw [if_pos trivial]
        rfl
      · rw [if_neg (fun h => h1 h.2), show decide (rd l (i : Int) > 1) = false from decide_eq_false h1]
        rcases hj with hj | hj
        · exact hj
        · exact absurd hj.2 h1
    · rw [if_neg (by omega), if_neg (fun h => h9 h.1)]
      rcases hj with hj | hj
      · exact hj
      · exact absurd hj.1 h9
theorem run_f {l : List Int} (hb : Bytes l) : quartermasterref05_run.f (2 * l.length + 1) l = some (((look 0 0 l).long : Int), (look 0 0 l).e) := by
  unfold quartermasterref05_run.f
  have := run_l hb l.length (2 * l.length + 1) 0 0 (by omega) (by omega) (by omega)
  simpa using this
theorem halves_l (odd : Int) {x0 : List Int} (hx : x0.length ≤ 10) : ∀ (m k i half p : Nat), x0.drop i = digs m → 1 ≤ i → i + (digs m).length = x0.length → 2 * p = 128 ^ i → half + m * p < 9223372036854775808 → (digs m).length < k →
    quartermasterref05_halves.l0 k x0 half odd p i = some (((half + m * p : Nat) : Int), odd) := by
  intro m
  induction m using Nat.strongRecOn with
  | _ m ih =>
    intro k i half p hd hi hl hp hb hk
    have hne := digs_ne m
    obtain ⟨k, rfl, hk1⟩ : ∃ j, k = j + 1 ∧ 1 ≤ j := ⟨k - 1, by omega, by omega⟩
    have hlt : i < x0.length := by omega
    have hdr := drop_rd hlt
    rw [hd] at hdr
    have hpp : p ≤ m * p ∨ m = 0 := by
      rcases Nat.eq_zero_or_pos m with h | h
      · exact .inr h
      · exact .inl (Nat.le_mul_of_pos_left _ h)
    by_cases h : m < 128
    · rw [digs_small h] at hdr hl
      injection hdr with h1 h2
      have hmm : wrap64 (Int.tmod (m : Int) 128) = (m : Int) := by rw [wm (by omega) (by omega)]; omega
      have HMM := Aside0.mk hmm
      clear hmm
      simp only [quartermasterref05_halves.l0]
      rw [if_pos (by omega), if_pos (by omega), ← h1, HMM.out, wi (by omega)]
      simp only [List.length_singleton] at hl
      have e2 : ((m : Int) * (p : Int)) = ((m * p : Nat) : Int) := by simp
      have b1 := Aside0.mk (w64 (x := ((m * p : Nat) : Int)) (by omega) (by omega))
      have b2 := Aside0.mk (w64 (x := (half : Int) + ((m * p : Nat) : Int)) (by omega) (by omega))
      rw [e2, b1.out, b2.out]
      have fin : ∀ p' : Int, quartermasterref05_halves.l0 k x0 ((half : Int) + ((m * p : Nat) : Int)) odd p' ((i + 1 : Nat) : Int) = some (((half + m * p : Nat) : Int), odd) := fun p' => by
        obtain ⟨k, rfl⟩ : ∃ j, k = j + 1 := ⟨k - 1, by omega⟩
        simp only [quartermasterref05_halves.l0]
        rw [if_neg (by omega)]
        simp
      rw [fin, fin, ite_self]
    · rw [digs_big h] at hdr hl
      injection hdr with h1 h2
      simp only [List.length_cons] at hl
      have hne2 := digs_ne (m / 128)
      have hi9 : i ≤ 8 := by omega
      have hmm : wrap64 (Int.tmod ((m % 128 + 128 : Nat) : Int) 128) = ((m % 128 : Nat) : Int) := by rw [wm (by omega) (by omega)]; omega
      have HMM := Aside0.mk hmm
      clear hmm
      simp only [quartermasterref05_halves.l0]
      rw [if_pos (by omega), if_pos (by omega), if_pos (by omega), ← h1, HMM.out, wi (by omega)]
      have e2 : (((m % 128 : Nat) : Int) * (p : Int)) = ((m % 128 * p : Nat) : Int) := by simp
      have e3 : m * p = m % 128 * p + m / 128 * (p * 128) := by
        have := Nat.div_add_mod m 128
        calc m * p = (128 * (m / 128) + m % 128) * p := by rw [this]
          _ = m % 128 * p + m / 128 * (p * 128) := by rw [Nat.add_mul, Nat.mul_comm 128 (m / 128), Nat.mul_assoc, Nat.mul_comm 128 p]; omega
      have e4 : p * 128 ≤ m / 128 * (p * 128) := Nat.le_mul_of_pos_left _ (by omega)
      clear hd h1
      have b1 := Aside0.mk (w64 (x := ((m % 128 * p : Nat) : Int)) (by omega) (by omega))
      have b2 := Aside0.mk (w64 (x := (half : Int) + ((m % 128 * p : Nat) : Int)) (by omega) (by omega))
      have b3 := Aside0.mk (w64 (x := (p : Int) * 128) (by omega) (by omega))
      rw [e2, b1.out, b2.out, b3.out]
      clear b1 b2 b3
      have := ih (m / 128) (by omega) k (i + 1) (half + m % 128 * p) (p * 128) h2.symm (by omega) (by omega) (by rw [Nat.pow_succ, ← hp]; omega) (by omega) (by rw [digs_big h] at hk; simp only [List.length_cons] at hk; omega)
      rw [show ((half : Int) + ((m % 128 * p : Nat) : Int)) = ((half + m % 128 * p : Nat) : Int) by omega, show ((p : Int) * 128) = ((p * 128 : Nat) : Int) by omega, this, e3]
      congr 3
      omega
theorem halves_f {k n : Nat} (hk : 12 ≤ k) (hn : n < 18446744073709551616) : quartermasterref05_halves.f k (digs n) = some (((n / 2 : Nat) : Int), ((n % 2 : Nat) : Int)) := by
  have hne := digs_ne n
  have ht := digs_ten hn
  unfold quartermasterref05_halves.f
  rw [if_pos (by omega)]
  have hdr := drop_rd hne
  rw [List.drop_zero] at hdr
  by_cases h : n < 128
  · have hd := digs_small h
    have h1 : rd (digs n) 0 = (n : Int) := by rw [hd]; rfl
    have hl : (digs n).length = 1 := by rw [hd]; rfl
    rw [h1]
    have e1 : wrap64 (Int.tdiv (wrap64 (Int.tmod (n : Int) 128)) 2) = ((n / 2 : Nat) : Int) := by
      rw [wm (by omega) (by omega), Int.tdiv_eq_ediv_of_nonneg (by omega), w64 (by omega) (by omega)]; omega
    have e2 : Int.tmod (wrap64 (n : Int)) 2 = ((n % 2 : Nat) : Int) := by
      rw [w64 (by omega) (by omega), Int.tmod_eq_emod_of_nonneg (by omega)]; omega
    rw [e1, e2]
    obtain ⟨k, rfl⟩ : ∃ j, k = j + 1 := ⟨k - 1, by omega⟩
    simp only [quartermasterref05_halves.l0]
    rw [if_neg (by omega)]
  · have hd := digs_big h
    have h1 : rd (digs n) 0 = ((n % 128 + 128 : Nat) : Int) := by rw [hd]; rfl
    have hl : (digs n).length = 1 + (digs (n / 128)).length := by rw [hd, List.length_cons]; omega
    have hd1 : (digs n).drop 1 = digs (n / 128) := by rw [hd]; rfl
    rw [h1]
    have e1 : wrap64 (Int.tdiv (wrap64 (Int.tmod ((n % 128 + 128 : Nat) : Int) 128)) 2) = ((n % 128 / 2 : Nat) : Int) := by
      rw [wm (by omega) (by omega), Int.tdiv_eq_ediv_of_nonneg (by omega), w64 (by omega) (by omega)]; omega
    have e2 : Int.tmod (wrap64 ((n % 128 + 128 : Nat) : Int)) 2 = ((n % 2 : Nat) : Int) := by
      rw [w64 (by omega) (by omega), Int.tmod_eq_emod_of_nonneg (by omega)]; omega
    rw [e1, e2]
    have := halves_l ((n % 2 : Nat) : Int) ht (n / 128) k 1 (n % 128 / 2) 64 hd1 (by omega) (by omega) (by decide) (by omega) (by omega)
    rw [show ((1 : Nat) : Int) = 1 from rfl, show ((64 : Nat) : Int) = 64 from rfl] at this
    rw [this, show n % 128 / 2 + n / 128 * 64 = n / 2 by omega]
end Go.Proofs.Ytgdelfckhcgnhaa.Code

namespace Go.Proofs.Ytgdelfckhcgnhaa.Code
open Go.RowKit Go.Proofs.Ytgdelfckhcgnhaa.Pa Go.Proofs.YtgdelfckhcgnhaaW.PrintWords Go.Proofs.YtgdelfckhcgnhaaW.PrintLast Go.Proofs.YtgdelfckhcgnhaaW.PrintMore
set_option linter.unusedVariables false

/-- What the reference got of bytes: a number, what is left (of the same row), an error. -/
def RGot (w : World) (A : Option Addr) (bs : List Int) (g : Got Int) (e : Ending) (w' : World) : Prop :=
  ∃ A' c', e = .returned (.tuple #[.int .i64 g.v, .slice A' g.left.length c', .int .i64 g.e]) ∧ g.left.length ≤ c' ∧ (∀ W, Kd.C (Kd.int .u8) W A bs.length bs → Kd.C (Kd.int .u8) W A' g.left.length g.left) ∧ Drawn0 w w'
theorem rgot_cut {w : World} {A : Option Addr} {c n : Nat} {bs : List Int} (v : Int) (hn : n ≤ bs.length) (hc : bs.length ≤ c) (w' : World) (hd : Drawn0 w w') (g : Got Int) (hg : g = ⟨v, bs.drop n, 0⟩) : RGot w A bs g (.returned (.tuple #[.int .i64 v, .slice (if c = n then A else A.map (·.add n)) (bs.length - n) (c - n), .int .i64 0])) w' := by
  subst hg
  refine ⟨if c = n then A else A.map (·.add n), c - n, by rw [List.length_drop], by rw [List.length_drop]; omega, fun W hC => ?_, hd⟩
  have := Kd.C_drop hC hn hc
  have e1 : (Kd.int .u8).sz = 1 := rfl
  rw [e1, Nat.mul_one] at this
  simpa using this
set_option maxRecDepth 100000 in
set_option maxHeartbeats 8000000 in
theorem rgetnum_any (A : Option Addr) (c : Nat) (bs : List Int) (w : World) (hC : Kd.C (Kd.int .u8) w A bs.length bs) (hc : bs.length ≤ c) (hb : Bytes bs) : Calls Try.prog 56 #[.slice A bs.length c] w (RGot w A bs (getNum bs)) := by
  have hcases := look_cases hb
  have hrun := quartermasterref05_run.calls _ A c bs _ _ w hC hc (run_f hb)
  have hput := put_look hb
  have hmax := Kd.C_max hC
  by_cases he : (look 0 0 bs).e = 0
  · have hL : 0 < (look 0 0 bs).long ∧ (look 0 0 bs).long ≤ bs.length ∧ (look 0 0 bs).n < 18446744073709551616 := by rcases hcases with h | h; exact ⟨h.2.1, h.2.2.1, h.2.2.2.2⟩; rcases h.1 with h | h <;> rw [h] at he <;> cases he
    have hp := hput he
    obtain ⟨L, hLe⟩ : ∃ L, L = (look 0 0 bs).long := ⟨_, rfl⟩
    obtain ⟨N, hNe⟩ : ∃ N, N = (look 0 0 bs).n := ⟨_, rfl⟩
    rw [← hLe, ← hNe] at hL hp
    rw [he, ← hLe] at hrun
    have hl : (bs.take L).length = L := by rw [List.length_take]; omega
    have hS : seen bs = if 9223372036854775808 ≤ N then ⟨0, 0, 7⟩ else look 0 0 bs := by
      unfold seen
      rw [← hNe]
      by_cases h : 9223372036854775808 ≤ N
      · rw [if_pos ⟨he, h⟩, if_pos h]
      · rw [if_neg (fun h2 => h h2.2), if_neg h]
    have hG : getNum bs = if 9223372036854775808 ≤ N then ⟨0, bs, 7⟩ else ⟨N, bs.drop L, 0⟩ := by
      unfold getNum
      rw [hS]
      by_cases h : 9223372036854775808 ≤ N
      · rw [if_pos h, if_pos h]; rfl
      · rw [if_neg h, if_neg h, if_pos he, ← hNe, ← hLe]
    have hh := fun m => quartermasterref05_halves.calls 12 A c (bs.take L) _ _ (w.drewN m) (Kd.C_drewN (Kd.C_take hC hL.2.1) m) (by omega) (by rw [← hp]; exact halves_f (Nat.le_refl _) hL.2.2)
    rw [hl] at hh
    obtain ⟨z, hz⟩ : ∃ z : Int, z = ((N / 2 : Nat) : Int) := ⟨_, rfl⟩
    obtain ⟨o, ho⟩ : ∃ o : Int, o = ((N % 2 : Nat) : Int) := ⟨_, rfl⟩
    rw [← hz, ← ho] at hh
    have f1 : (L : Int) ≤ (bs.length : Int) := by omega
    have f2 : (L : Int) ≤ (c : Int) := by omega
    have f3 : (bs.length : Int) ≤ 9223372036854775807 := by omega
    have z0 : 0 ≤ z := by omega
    have o0 : 0 ≤ o := by omega
    have o1 : o ≤ 1 := by omega
    have HH := Aside0.mk hh
    have HRUN := Aside0.mk hrun
    have HX := Aside0.mk (And.intro hL (And.intro hc (And.intro hG (And.intro hz ho))))
    by_cases hbig : 9223372036854775808 ≤ N
    · have zb : (4611686018427387903 : Int) < z := by omega
      rw [hG, if_pos hbig]
      clear hcases hrun hput hmax hp hl hG hh hz ho he hLe hNe hC hc hb hL hbig
      go_enter Try.func56, Try.ntmps56
      go_wp2_with (first | (go_at_call 57; refine HRUN.out.mono ?_; rintro e w1 ⟨rfl, ⟨m, rfl⟩⟩) | (go_at_call 58; refine (HH.out _).mono ?_; rintro e w2 ⟨rfl, ⟨m2, rfl⟩⟩))
      go_ret3
      exact ⟨A, c, rfl, HX.out.2.1, fun _ h => h, ⟨_, rfl⟩⟩
    · have zb : z ≤ 4611686018427387903 := by omega
      have e0 : 2 * z + o = (N : Int) := by omega
      rw [hG, if_neg hbig]
      have HE := Aside0.mk e0
      clear hcases hrun hput hmax hp hl hG hh hz ho he hLe hNe hC hc hb hL hbig e0
      go_enter Try.func56, Try.ntmps56
      go_wp2_with (first | (go_at_call 57; refine HRUN.out.mono ?_; rintro e w1 ⟨rfl, ⟨m, rfl⟩⟩) | (go_at_call 58; refine (HH.out _).mono ?_; rintro e w2 ⟨rfl, ⟨m2, rfl⟩⟩))
      have i1 : IntKind.i64.wrap (2 * z) = 2 * z := IntWalk.i64_in _ (by omega)
      have i2 : IntKind.i64.wrap (2 * z + o) = 2 * z + o := IntWalk.i64_in _ (by omega)
      go_quiet (fail)
      clear i1 i2
      go_wp2
      · go_ret3
        have h := rgot_cut (A := A) (c := L) (2 * z + o) HX.out.1.2.1 (Nat.le_trans HX.out.2.1 (Nat.le_of_eq (by assumption))) (w.drewN (m + m2 + nq)) ⟨_, rfl⟩ ⟨2 * z + o, bs.drop L, 0⟩ rfl
        rw [if_pos rfl, Nat.sub_self] at h
        have e1 := HE.out
        simp only [e1] at h ⊢
        exact h
      · go_ret3
        have h := rgot_cut (A := A) (c := c) (2 * z + o) HX.out.1.2.1 HX.out.2.1 (w.drewN (m + m2 + nq)) ⟨_, rfl⟩ ⟨2 * z + o, bs.drop L, 0⟩ rfl
        rw [if_neg (by assumption)] at h
        have e1 := HE.out
        simp only [e1] at h ⊢
        exact h
  · have hG : getNum bs = ⟨0, bs, (look 0 0 bs).e⟩ := by
      have hS : seen bs = look 0 0 bs := by unfold seen; rw [if_neg (fun h => he h.1)]
      unfold getNum
      rw [hS, if_neg he]
    have h0 : (look 0 0 bs).long = 0 := by rcases hcases with h | h; exact absurd h.1 he; exact h.2.2
    rw [h0] at hrun
    rw [hG]
    obtain ⟨E, hE⟩ : ∃ E, E = (look 0 0 bs).e := ⟨_, rfl⟩
    rw [← hE] at hrun he ⊢
    have e1 : (E != 0) = true := by simp [he]
    have HRUN := Aside0.mk hrun
    clear hcases hput hmax hG h0 hrun hE he
    go_enter Try.func56, Try.ntmps56
    go_wp2_with (go_at_call 57; refine HRUN.out.mono ?_; rintro e w1 ⟨rfl, ⟨m, rfl⟩⟩)
    go_ret3
    exact ⟨A, c, rfl, hc, fun _ h => h, ⟨_, rfl⟩⟩
set_option maxRecDepth 100000 in
set_option maxHeartbeats 8000000 in
theorem rgetint_any (A : Option Addr) (c : Nat) (bs : List Int) (w : World) (hC : Kd.C (Kd.int .u8) w A bs.length bs) (hc : bs.length ≤ c) (hb : Bytes bs) : Calls Try.prog 44 #[.slice A bs.length c] w (RGot w A bs (getInt bs)) := by
  have hcases := look_cases hb
  have hrun := quartermasterref05_run.calls _ A c bs _ _ w hC hc (run_f hb)
  have hput := put_look hb
  have hmax := Kd.C_max hC
  by_cases he : (look 0 0 bs).e = 0
  · have hL : 0 < (look 0 0 bs).long ∧ (look 0 0 bs).long ≤ bs.length ∧ (look 0 0 bs).n < 18446744073709551616 := by rcases hcases with h | h; exact ⟨h.2.1, h.2.2.1, h.2.2.2.2⟩; rcases h.1 with h | h <;> rw [h] at he <;> cases he
    have hp := hput he
    obtain ⟨L, hLe⟩ : ∃ L, L = (look 0 0 bs).long := ⟨_, rfl⟩
    obtain ⟨N, hNe⟩ : ∃ N, N = (look 0 0 bs).n := ⟨_, rfl⟩
    rw [← hLe, ← hNe] at hL hp
    rw [he, ← hLe] at hrun
    have hl : (bs.take L).length = L := by rw [List.length_take]; omega
    have hG : getInt bs = ⟨if N % 2 = 1 then -((N / 2 : Nat) : Int) - 1 else ((N / 2 : Nat) : Int), bs.drop L, 0⟩ := by
      unfold getInt
      rw [if_pos he, ← hNe, ← hLe]
    have hh := fun m => quartermasterref05_halves.calls 12 A c (bs.take L) _ _ (w.drewN m) (Kd.C_drewN (Kd.C_take hC hL.2.1) m) (by omega) (by rw [← hp]; exact halves_f (Nat.le_refl _) hL.2.2)
    rw [hl] at hh
    obtain ⟨z, hz⟩ : ∃ z : Int, z = ((N / 2 : Nat) : Int) := ⟨_, rfl⟩
    obtain ⟨o, ho⟩ : ∃ o : Int, o = ((N % 2 : Nat) : Int) := ⟨_, rfl⟩
    rw [← hz, ← ho] at hh
    have f1 : (L : Int) ≤ (bs.length : Int) := by omega
    have f2 : (L : Int) ≤ (c : Int) := by omega
    have f3 : (bs.length : Int) ≤ 9223372036854775807 := by omega
    have z0 : 0 ≤ z := by omega
    have o0 : 0 ≤ o := by omega
    have o1 : o ≤ 1 := by omega
    have HH := Aside0.mk hh
    have HRUN := Aside0.mk hrun
    have HX := Aside0.mk (And.intro hL (And.intro hc (And.intro hG (And.intro hz ho))))
    have zb : z ≤ 9223372036854775807 := by omega
    by_cases hodd : N % 2 = 1
    · have ho1 : o = 1 := by omega
      have hGz : getInt bs = ⟨-z - 1, bs.drop L, 0⟩ := by rw [hG, if_pos hodd, hz]
      rw [hGz]
      have c1 : (o == 1) = true := beq_iff_eq.2 ho1
      clear ho1 hodd hGz
      clear hcases hrun hput hmax hp hl hG hh hz ho he hLe hNe hC hc hb hL
      go_enter Try.func44, Try.ntmps44
      go_wp2_with (first | (go_at_call 57; refine HRUN.out.mono ?_; rintro e w1 ⟨rfl, ⟨m, rfl⟩⟩) | (go_at_call 58; refine (HH.out _).mono ?_; rintro e w2 ⟨rfl, ⟨m2, rfl⟩⟩))
      have i1 : IntKind.i64.wrap (-z) = -z := IntWalk.i64_in _ (by omega)
      have i2 : IntKind.i64.wrap (-z - 1) = -z - 1 := IntWalk.i64_in _ (by omega)
      go_quiet (fail)
      clear i1 i2
      go_wp2
      · go_ret3
        have h := rgot_cut (A := A) (c := L) (-z - 1) HX.out.1.2.1 (Nat.le_trans HX.out.2.1 (Nat.le_of_eq (by assumption))) (w.drewN (m + m2 + nq)) ⟨_, rfl⟩ ⟨-z - 1, bs.drop L, 0⟩ rfl
        rw [if_pos rfl, Nat.sub_self] at h
        skip
        exact h
      · go_ret3
        have h := rgot_cut (A := A) (c := c) (-z - 1) HX.out.1.2.1 HX.out.2.1 (w.drewN (m + m2 + nq)) ⟨_, rfl⟩ ⟨-z - 1, bs.drop L, 0⟩ rfl
        rw [if_neg (by assumption)] at h
        skip
        exact h
    · have ho1 : o ≠ 1 := by omega
      have hGz : getInt bs = ⟨z, bs.drop L, 0⟩ := by rw [hG, if_neg hodd, hz]
      rw [hGz]
      have c1 : (o == 1) = false := beq_eq_false_iff_ne.2 ho1
      clear ho1 hodd hGz
      clear hcases hrun hput hmax hp hl hG hh hz ho he hLe hNe hC hc hb hL
      go_enter Try.func44, Try.ntmps44
      go_wp2_with (first | (go_at_call 57; refine HRUN.out.mono ?_; rintro e w1 ⟨rfl, ⟨m, rfl⟩⟩) | (go_at_call 58; refine (HH.out _).mono ?_; rintro e w2 ⟨rfl, ⟨m2, rfl⟩⟩))
      have i1 : True := trivial
      have i2 : True := trivial
      go_quiet (fail)
      clear i1 i2
      go_wp2
      · go_ret3
        have h := rgot_cut (A := A) (c := L) (z) HX.out.1.2.1 (Nat.le_trans HX.out.2.1 (Nat.le_of_eq (by assumption))) (w.drewN (m + m2 + nq)) ⟨_, rfl⟩ ⟨z, bs.drop L, 0⟩ rfl
        rw [if_pos rfl, Nat.sub_self] at h
        skip
        exact h
      · go_ret3
        have h := rgot_cut (A := A) (c := c) (z) HX.out.1.2.1 HX.out.2.1 (w.drewN (m + m2 + nq)) ⟨_, rfl⟩ ⟨z, bs.drop L, 0⟩ rfl
        rw [if_neg (by assumption)] at h
        skip
        exact h
  · have hG : getInt bs = ⟨0, bs, (look 0 0 bs).e⟩ := by
      unfold getInt
      rw [if_neg he]
    have h0 : (look 0 0 bs).long = 0 := by rcases hcases with h | h; exact absurd h.1 he; exact h.2.2
    rw [h0] at hrun
    rw [hG]
    obtain ⟨E, hE⟩ : ∃ E, E = (look 0 0 bs).e := ⟨_, rfl⟩
    rw [← hE] at hrun he ⊢
    have e1 : (E != 0) = true := by simp [he]
    have HRUN := Aside0.mk hrun
    clear hcases hput hmax hG h0 hrun hE he
    go_enter Try.func44, Try.ntmps44
    go_wp2_with (go_at_call 57; refine HRUN.out.mono ?_; rintro e w1 ⟨rfl, ⟨m, rfl⟩⟩)
    go_ret3
    exact ⟨A, c, rfl, hc, fun _ h => h, ⟨_, rfl⟩⟩

end Go.Proofs.Ytgdelfckhcgnhaa.Code

namespace Go.Proofs.Ytgdelfckhcgnhaa.Code
open Go.RowKit Go.Proofs.Ytgdelfckhcgnhaa.Pa Go.Proofs.YtgdelfckhcgnhaaW.PrintWords Go.Proofs.YtgdelfckhcgnhaaW.PrintLast Go.Proofs.YtgdelfckhcgnhaaW.PrintMore
set_option linter.unusedVariables false
set_option linter.unusedSimpArgs false

def numsN (bs : List Int) : Nat → Option (List Int × List Int)
  | 0 => some ([], bs)
  | n + 1 => match numsN bs n with
    | none => none
    | some (xs, r) => if (getNum r).e = 0 then some (xs ++ [(getNum r).v], (getNum r).left) else none
theorem numsN_succ {bs xs r : List Int} {n : Nat} (h : numsN bs n = some (xs, r)) : numsN bs (n + 1) = if (getNum r).e = 0 then some (xs ++ [(getNum r).v], (getNum r).left) else none := by
  simp only [numsN, h]
theorem numsN_none {bs : List Int} {j : Nat} (h : numsN bs j = none) : ∀ {n : Nat}, j ≤ n → numsN bs n = none
  | 0, hj => by
    obtain rfl : j = 0 := by omega
    exact h
  | n + 1, hj => by
    rcases Nat.lt_or_ge n j with h1 | h1
    · obtain rfl : j = n + 1 := by omega
      exact h
    · simp only [numsN, numsN_none h h1]
theorem numsN_len {bs : List Int} : ∀ {n : Nat} {xs r : List Int}, numsN bs n = some (xs, r) → xs.length = n
  | 0, xs, r, h => by simp only [numsN, Option.some.injEq, Prod.mk.injEq] at h; rw [← h.1]; rfl
  | n + 1, xs, r, h => by
    cases hn : numsN bs n with
    | none => simp only [numsN, hn] at h; cases h
    | some p =>
      obtain ⟨ys, s⟩ := p
      rw [numsN_succ hn] at h
      split at h
      · simp only [Option.some.injEq, Prod.mk.injEq] at h
        rw [← h.1, List.length_append, numsN_len hn]; rfl
      · cases h
theorem numsN_bytes {bs : List Int} (hb : Bytes bs) : ∀ {n : Nat} {xs r : List Int}, numsN bs n = some (xs, r) → Bytes r ∧ ∀ x ∈ xs, In64 x ∧ 0 ≤ x
  | 0, xs, r, h => by
    simp only [numsN, Option.some.injEq, Prod.mk.injEq] at h
    rw [← h.1, ← h.2]
    exact ⟨hb, fun x hx => by cases hx⟩
  | n + 1, xs, r, h => by
    cases hn : numsN bs n with
    | none => simp only [numsN, hn] at h; cases h
    | some p =>
      obtain ⟨ys, s⟩ := p
      have ih := numsN_bytes hb hn
      rw [numsN_succ hn] at h
      split at h
      · simp only [Option.some.injEq, Prod.mk.injEq] at h
        rw [← h.1, ← h.2]
        have hf := num_fits ih.1
        refine ⟨hf.2, fun x hx => ?_⟩
        rcases List.mem_append.1 hx with h1 | h1
        · exact ih.2 x h1
        · rw [List.mem_singleton.1 h1]; exact ⟨hf.1.2, hf.1.1⟩
      · cases h
def RNums (w : World) (A : Option Addr) (bs : List Int) (R : Option (List Int × List Int)) (e : Ending) (w' : World) : Prop :=
  Below w.heap.size w w' ∧ match R with
  | none => e = .returned (.tuple #[.slice none 0 0, .slice none 0 0, .bool false])
  | some (xs, l) => ∃ v A' c', e = .returned (.tuple #[v, .slice A' l.length c', .bool true]) ∧ l.length ≤ c' ∧ (∀ W, Kd.C (Kd.int .u8) W A bs.length bs → Kd.C (Kd.int .u8) W A' l.length l) ∧ Kd.R (Kd.int .i64) 3 w' w.heap.size (fun _ => True) v xs
theorem RNums.no {w w' : World} {A : Option Addr} {bs : List Int} {R : Option (List Int × List Int)} (h : R = none) (hb : Below w.heap.size w w') : RNums w A bs R (.returned (.tuple #[.slice none 0 0, .slice none 0 0, .bool false])) w' := by
  subst h; exact ⟨hb, rfl⟩
theorem RNums.yes {w w' : World} {A A' : Option Addr} {c' : Nat} {bs xs l : List Int} {v : Value} {R : Option (List Int × List Int)} (h : R = some (xs, l)) (hb : Below w.heap.size w w') (hc : l.length ≤ c') (hA : ∀ W, Kd.C (Kd.int .u8) W A bs.length bs → Kd.C (Kd.int .u8) W A' l.length l) (hR : Kd.R (Kd.int .i64) 3 w' w.heap.size (fun _ => True) v xs) : RNums w A bs R (.returned (.tuple #[v, .slice A' l.length c', .bool true])) w' := by
  subst h; exact ⟨hb, v, A', c', rfl, hc, hA, hR⟩
theorem infoI : (Try.prog.info? 3).map (fun i => (i.zero, i.size, i.bytes)) = some (some (.int .i64 0), 1, 8) := by kernel_rfl
set_option maxRecDepth 100000 in
set_option maxHeartbeats 16000000 in
theorem rnumbers (A : Option Addr) (c : Nat) (bs : List Int) (w : World) (n : Nat) (N : Int) (hN : N = n) (hn : n ≤ 10) (hC : Kd.C (Kd.int .u8) w A bs.length bs) (hc : bs.length ≤ c) (hb : Bytes bs) : Calls Try.prog 42 #[.slice A bs.length c, .int .i64 N] w (RNums w A bs (numsN bs n)) := by
  have HC := Aside0.mk hC
  have HN := Aside0.mk (And.intro hN hn)
  have HS : Aside0 (numsN bs 0 = some ([], bs) ∧ Bytes bs ∧ bs.length ≤ c ∧ (∀ W, Kd.C (Kd.int .u8) W A bs.length bs → Kd.C (Kd.int .u8) W A bs.length bs)) := ⟨rfl, hb, hc, fun _ h => h⟩
  have HR : Aside0 (Kd.R (Kd.int .i64) 3 w w.heap.size (fun _ => True) (.slice none 0 0) [] ∧ Below w.heap.size w w) := ⟨Kd.R_nil _ _ _ _ _, Below.refl _ _⟩
  clear hN hn hC hc hb
  go_enter Try.func42, Try.ntmps42
  go_wp2
  go_loopg [0, 7, 8, 9, 10, 11] (n + 1) (fun kq v0 v7 v8 v9 v10 v11 w' => ∃ (I : Int) (j : Nat) (A' A7 : Option Addr) (c' c7 : Nat) (l xs : List Int), v0 = .slice A' l.length c' ∧ v7 = .slice A7 xs.length c7 ∧ v8 = .int .i64 I ∧ Aside0 (I = (j : Int) ∧ kq + j = n + 1 ∧ j ≤ n) ∧ Aside0 (numsN bs j = some (xs, l) ∧ Bytes l ∧ l.length ≤ c' ∧ (∀ W, Kd.C (Kd.int .u8) W A bs.length bs → Kd.C (Kd.int .u8) W A' l.length l)) ∧ Aside0 (Kd.R (Kd.int .i64) 3 w' w.heap.size (fun _ => True) (.slice A7 xs.length c7) xs ∧ Below w.heap.size w w'))
  case atStart => exact ⟨0, 0, A, none, c, 0, bs, [], rfl, rfl, rfl, ⟨⟨rfl, rfl, Nat.zero_le _⟩⟩, HS, HR⟩
  case round =>
    clear HS HR
    obtain ⟨I, j, A', A7, c', c7, l, xs, rfl, rfl, rfl, HA, HS, HR⟩ := hrel
    cases gk with
    | zero => exact absurd HA.out.2 (by omega)
    | succ k1 =>
      by_cases hi : I < N
      · have p1 : decide (I < N) = true := decide_eq_true hi
        have hjn : j < n := by have := HA.out.1; have := HN.out.1; omega
        have hw9 : Aside0 (wrap64 (I + 1) = ((j + 1 : Nat) : Int)) := ⟨by have h3 := HA.out.1; have h4 := HN.out.2; unfold wrap64; omega⟩
        have hxl : xs.length ≤ 10 := by have := numsN_len HS.out.1; have := HN.out.2; omega
        have pg := rgetnum_any A' c' l wr (HS.out.2.2.2 wr (Kd.C_below HC.out HR.out.2)) HS.out.2.2.1 HS.out.2.1
        have hsuc := numsN_succ HS.out.1
        have hfit := num_fits HS.out.2.1
        obtain ⟨E, hE⟩ : ∃ E, E = (getNum l).e := ⟨_, rfl⟩
        obtain ⟨x, hx⟩ : ∃ x, x = (getNum l).v := ⟨_, rfl⟩
        obtain ⟨l2, hl2⟩ : ∃ l2, l2 = (getNum l).left := ⟨_, rfl⟩
        unfold RGot at pg
        rw [← hE, ← hx, ← hl2] at pg hsuc
        rw [← hl2] at hfit
        have HF := Aside0.mk hfit.2
        have PG := Aside0.mk pg
        have HX := Aside0.mk hxl
        clear pg hE hx hl2 hfit hi hxl
        by_cases he : E = 0
        · have e1 : (E != 0) = false := by rw [he]; rfl
          rw [if_pos he] at hsuc
          have HQ := Aside0.mk hsuc
          clear he hsuc hjn
          go_wp2_with (first | (go_at_call 56; refine PG.out.mono ?_; rintro e' w1 ⟨A2, c2, rfl, h2, h3, ⟨m, rfl⟩⟩; have H2 := Aside0.mk (And.intro h2 h3); have HR1 : Aside0 (Kd.R (Kd.int .i64) 3 (wr.drewN m) w.heap.size (fun _ => True) (.slice A7 xs.length c7) xs ∧ Below w.heap.size w (wr.drewN m)) := ⟨Kd.R_drewN HR.out.1 m, pw_below_drewN HR.out.2 m⟩; clear h2 h3) | ((with_reducible refine gate_builtin (b := .append) (xs := #[.tmp 25, .tmp 27]) rfl ?_); at_builtin; refine Kd.R_append (Kd.int .i64) (w0 := w) w.heap.size rfl (.tmp 25) (.tmp 27) 78 3 (.int .i64 0) 8 rfl Try.underlying78 infoI rfl (by decide) (by decide) (.slice A7 xs.length c7) xs x [.int .i64 x] (fun _ => True) (fun _ => False) rfl rfl ?aM ?aN (fun _ _ => trivial) ?aO ?aB ?aZ ?aL ?_; (case aM => rfl); (case aN => exact fun _ h => h.elim); (case aO => exact HR1.out.1); (case aB => exact HR1.out.2); (case aZ => exact HR1.out.2.size); (case aL => have := HX.out; omega); intro v1 w3 ho hb hg hat; obtain ⟨xs2, hxs2⟩ : ∃ q, q = xs ++ [x] := ⟨_, rfl⟩; rw [← hxs2] at ho; obtain ⟨A1, c1, rfl⟩ := Kd.R_slice ho; have HT := Aside0.mk (And.intro ho hb); have HE := Aside0.mk hxs2; clear ho hb hg hat hxs2))
          go_roundg k1
          case measure => omega
          case rel => exact ⟨_, j + 1, A2, A1, c2, c1, l2, xs2, rfl, rfl, rfl, ⟨hw9.out, by have h1 := HA.out; omega, by have h1 := HA.out; have h2 := HN.out; have h3 := of_decide_eq_true p1; omega⟩, ⟨by rw [HQ.out, HE.out], HF.out, H2.out.1, fun W h => H2.out.2 W (HS.out.2.2.2 W h)⟩, HT⟩
        · have e1 : (E != 0) = true := by simp [he]
          rw [if_neg he] at hsuc
          have HQ := Aside0.mk (numsN_none hsuc (show j + 1 ≤ n by omega))
          clear he hsuc hjn
          go_wp2_with (go_at_call 56; refine PG.out.mono ?_; rintro e' w1 ⟨A2, c2, rfl, h2, h3, ⟨m, rfl⟩⟩; clear h2 h3)
          go_ret3
          exact RNums.no HQ.out (pw_below_drewN HR.out.2 m)
      · have p1 : decide (I < N) = false := decide_eq_false hi
        have hjn : j = n := by have := HA.out; have := HN.out; omega
        go_wp2
        go_ret3
        exact RNums.yes (hjn ▸ HS.out.1) HR.out.2 HS.out.2.2.1 HS.out.2.2.2 HR.out.1
end Go.Proofs.Ytgdelfckhcgnhaa.Code

namespace Go.Proofs.Ytgdelfckhcgnhaa.Code
open Go.RowKit Go.Proofs.Ytgdelfckhcgnhaa.Pa Go.Proofs.YtgdelfckhcgnhaaW.PrintWords Go.Proofs.YtgdelfckhcgnhaaW.PrintLast Go.Proofs.YtgdelfckhcgnhaaW.PrintMore
set_option linter.unusedVariables false
set_option linter.unusedSimpArgs false

def AtI (v : Value) (xs : List Int) (W : World) (F : Nat → Prop) : Prop := Kd.R (Kd.int .i64) 3 W 0 F v xs
theorem AtI.moves (v : Value) (xs : List Int) : Moves (AtI v xs) := fun h hw hn => Kd.R_kept h hw.kept hn
abbrev rowI (v : Value) (xs : List Int) : Thing := .gen (AtI v xs) (AtI.moves v xs)
theorem R_away {α : Type} {d : Kd α} {e : Nat} {w : World} {base : Nat} {ok : Nat → Prop} {v : Value} {l : List α} (h : Kd.R d e w base ok v l) : Kd.R d e w 0 (fun k => base ≤ k ∧ k < w.heap.size) v l :=
  Kd.R_mono (Kd.R_lower (Kd.R_bound h) (Nat.zero_le _)) (fun k hk => ⟨hk.2.1, hk.2.2.1⟩)
theorem Sit.addI {w0 W W' : World} {T : List Thing} {v : Value} {xs : List Int} (h : Sit w0 W T) (hb : Below W.heap.size W W') (hR : Kd.R (Kd.int .i64) 3 W' W.heap.size (fun _ => True) v xs) : Sit w0 W' (rowI v xs :: T) :=
  h.add hb (t := rowI v xs) (F := fun k => W.heap.size ≤ k ∧ k < W'.heap.size) (R_away hR) (fun k hk => hk)
theorem sit_rowI {w0 W : World} {T : List Thing} {v : Value} {xs : List Int} (h : Sit w0 W (rowI v xs :: T)) (hp : 0 < xs.length) : ∃ g c, v = .slice (some ⟨g, 0, none⟩) xs.length c ∧ xs.length ≤ c ∧ ∀ i, i < xs.length → W.cell? ⟨g, i, none⟩ = some (.int .i64 (xs.getD i 0)) := by
  obtain ⟨hb, F, k1, k2, k3⟩ := h
  have ho := Kd.own_of_R k1
  obtain ⟨g, cap, rfl, -⟩ := Kd.R_form k1 hp
  refine ⟨g, cap, rfl, (Kd.R_reads' k1).2.1, fun i hi => ?_⟩
  rw [ho.cellAt i (by omega)]
  simp [encs, hi]
def rlinesN (bs : List Int) : Nat → Option (List S93 × List Int)
  | 0 => some ([], bs)
  | n + 1 => match rlinesN bs n with
    | none => none
    | some (L, r) => match numsN r 3 with
      | none => none
      | some (xs, l) => some (L ++ [⟨xs.getD 0 0, xs.getD 1 0, xs.getD 2 0⟩], l)
theorem rlinesN_succ {bs r : List Int} {L : List S93} {n : Nat} (h : rlinesN bs n = some (L, r)) : rlinesN bs (n + 1) = match numsN r 3 with | none => none | some (xs, l) => some (L ++ [⟨xs.getD 0 0, xs.getD 1 0, xs.getD 2 0⟩], l) := by
  simp only [rlinesN, h]
theorem rlinesN_none {bs : List Int} {j : Nat} (h : rlinesN bs j = none) : ∀ {n : Nat}, j ≤ n → rlinesN bs n = none
  | 0, hj => by
    obtain rfl : j = 0 := by omega
    exact h
  | n + 1, hj => by
    rcases Nat.lt_or_ge n j with h1 | h1
    · obtain rfl : j = n + 1 := by omega
      exact h
    · simp only [rlinesN, rlinesN_none h h1]
theorem rlinesN_len {bs : List Int} : ∀ {n : Nat} {L : List S93} {r : List Int}, rlinesN bs n = some (L, r) → L.length = n
  | 0, L, r, h => by simp only [rlinesN, Option.some.injEq, Prod.mk.injEq] at h; rw [← h.1]; rfl
  | n + 1, L, r, h => by
    cases hn : rlinesN bs n with
    | none => simp only [rlinesN, hn] at h; cases h
    | some p =>
      obtain ⟨M, s⟩ := p
      rw [rlinesN_succ hn] at h
      cases h3 : numsN s 3 with
      | none => simp only [h3] at h; cases h
      | some q =>
        simp only [h3, Option.some.injEq, Prod.mk.injEq] at h
        rw [← h.1, List.length_append, rlinesN_len hn]; rfl
def rread (bs : List Int) : Option (List S93 × List Int) := match numsN bs 1 with
  | none => none
  | some (xs, r) => if 4 < xs.getD 0 0 then none else rlinesN r (xs.getD 0 0).toNat
/-- Numbers, beside what lies there. -/
theorem snums_no {w0 W : World} {T : List Thing} {A : Option Addr} {c : Nat} {bs : List Int} {n : Nat} {N : Int} (hN : N = n) (hn : n ≤ 10) (h : Sit w0 W T) (hC : Kd.C (Kd.int .u8) w0 A bs.length bs) (hc : bs.length ≤ c) (hb : Bytes bs) (hr : numsN bs n = none) :
    Calls Try.prog 42 #[.slice A bs.length c, .int .i64 N] W fun e w' => e = .returned (.tuple #[.slice none 0 0, .slice none 0 0, .bool false]) ∧ Sit w0 w' T := by
  refine (rnumbers A c bs W n N hN hn (Kd.C_below hC h.below) hc hb).mono ?_
  rintro e w' ⟨hb, he⟩
  rw [hr] at he
  exact ⟨he, h.behind hb⟩
theorem snums_yes {w0 W : World} {T : List Thing} {A : Option Addr} {c : Nat} {bs xs l : List Int} {n : Nat} {N : Int} (hN : N = n) (hn : n ≤ 10) (h0 : 0 < n) (h : Sit w0 W T) (hC : Kd.C (Kd.int .u8) w0 A bs.length bs) (hc : bs.length ≤ c) (hb : Bytes bs) (hr : numsN bs n = some (xs, l)) :
    Calls Try.prog 42 #[.slice A bs.length c, .int .i64 N] W fun e w' => ∃ g cv A' c', e = .returned (.tuple #[.slice (some ⟨g, 0, none⟩) xs.length cv, .slice A' l.length c', .bool true]) ∧ l.length ≤ c' ∧ xs.length ≤ cv ∧ Kd.C (Kd.int .u8) w0 A' l.length l ∧ (∀ i, i < xs.length → w'.cell? ⟨g, i, none⟩ = some (.int .i64 (xs.getD i 0))) ∧ Sit w0 w' (rowI (.slice (some ⟨g, 0, none⟩) xs.length cv) xs :: T) := by
  refine (rnumbers A c bs W n N hN hn (Kd.C_below hC h.below) hc hb).mono ?_
  rintro e w' ⟨hb, he⟩
  rw [hr] at he
  obtain ⟨v, A', c', rfl, h1, h2, h3⟩ := he
  have hs := h.addI hb h3
  obtain ⟨g, cv, rfl, hcv, hcell⟩ := sit_rowI hs (by rw [numsN_len hr]; exact h0)
  exact ⟨g, cv, A', c', rfl, h1, hcv, h2 w0 hC, hcell, hs⟩
theorem sit_rowI2 {w0 W : World} {T : List Thing} {g n c : Nat} {xs : List Int} (h : Sit w0 W (rowI (.slice (some ⟨g, 0, none⟩) n c) xs :: T)) : ∀ i, i < xs.length → W.cell? ⟨g, i, none⟩ = some (.int .i64 (xs.getD i 0)) := by
  intro i hi
  obtain ⟨g', c', e, -, hc⟩ := sit_rowI h (by omega)
  injection e with e1 _ _
  injection e1 with e1
  injection e1 with e1 _ _
  subst e1
  exact hc i hi
def ReadTold (w0 : World) (T : List Thing) (R : Option (List S93 × List Int)) (e : Ending) (w' : World) : Prop := match R with
  | none => e = .returned (.tuple #[.slice none 0 0, .slice none 0 0, .bool false]) ∧ Sit w0 w' T
  | some (L, l) => ∃ v A' c', e = .returned (.tuple #[v, .slice A' l.length c', .bool true]) ∧ l.length ≤ c' ∧ Kd.C (Kd.int .u8) w0 A' l.length l ∧ Sit w0 w' (row93 v L :: T)
theorem ReadTold.no {w0 w' : World} {T : List Thing} {R : Option (List S93 × List Int)} (h : R = none) (hs : Sit w0 w' T) : ReadTold w0 T R (.returned (.tuple #[.slice none 0 0, .slice none 0 0, .bool false])) w' := by
  subst h; exact ⟨rfl, hs⟩
theorem ReadTold.yes {w0 w' : World} {T : List Thing} {R : Option (List S93 × List Int)} {L : List S93} {l : List Int} {v : Value} {A' : Option Addr} {c' : Nat} (h : R = some (L, l)) (hc : l.length ≤ c') (hC : Kd.C (Kd.int .u8) w0 A' l.length l) (hs : Sit w0 w' (row93 v L :: T)) : ReadTold w0 T R (.returned (.tuple #[v, .slice A' l.length c', .bool true])) w' := by
  subst h; exact ⟨v, A', c', rfl, hc, hC, hs⟩
set_option maxRecDepth 100000 in
set_option maxHeartbeats 16000000 in
theorem rread_any {w0 W : World} {T : List Thing} {A : Option Addr} {c : Nat} {bs : List Int} (h : Sit w0 W T) (hC : Kd.C (Kd.int .u8) w0 A bs.length bs) (hc : bs.length ≤ c) (hb : Bytes bs) : Calls Try.prog 43 #[.slice A bs.length c] W (ReadTold w0 T (rread bs)) := by
  cases h1 : numsN bs 1 with
  | none =>
    have hR : rread bs = none := by unfold rread; rw [h1]
    rw [hR]
    have PN := Aside0.mk (snums_no (n := 1) (N := 1) rfl (by omega) h hC hc hb h1)
    clear h hC hc hb h1 hR
    go_enter Try.func43, Try.ntmps43
    go_wp2_with (go_at_call 42; (with_reducible refine PN.out.mono ?_); rintro e' w1 ⟨rfl, hs⟩; have H1 := Aside0.mk hs; clear hs)
    go_ret3
    exact ReadTold.no rfl H1.out
  | some p =>
    obtain ⟨xs, l0⟩ := p
    have hlen := numsN_len h1
    obtain ⟨x, rfl⟩ : ∃ x, xs = [x] := by
      match xs, hlen with
      | [x], _ => exact ⟨x, rfl⟩
    have hbl := numsN_bytes hb h1
    have hx := hbl.2 x (by simp)
    have hR : rread bs = if 4 < x then none else rlinesN l0 x.toNat := by unfold rread; rw [h1]; rfl
    rw [hR]
    have PN := Aside0.mk (snums_yes (n := 1) (N := 1) rfl (by omega) (by omega) h hC hc hb h1)
    have HB := Aside0.mk hbl.1
    clear h hC hc hb h1 hR hlen hbl
    by_cases h4 : 4 < x
    · have q4 : decide (4 < x) = true := decide_eq_true h4
      rw [if_pos h4]
      clear h4
      go_enter Try.func43, Try.ntmps43
      go_wp2_with (go_at_call 42; (with_reducible refine PN.out.mono ?_); rintro e' w1 ⟨g, cv, A', c', rfl, hl1, hcv, hC1, hcell, hs⟩; have H1 := Aside0.mk hs.tail; have c0 := hcell 0 (by simp); simp only [List.getD_cons_zero] at c0; have hcv2 : 1 ≤ cv := hcv; clear hs hcell hl1 hC1 hcv)
      go_ret3
      exact ReadTold.no rfl H1.out
    · have q4 : decide (4 < x) = false := decide_eq_false h4
      rw [if_neg h4]
      obtain ⟨m, hm⟩ : ∃ m, m = x.toNat := ⟨_, rfl⟩
      have HM : Aside0 (x = (m : Int) ∧ m ≤ 4) := ⟨by have := hx.2; omega⟩
      rw [← hm]
      clear h4 hm hx
      go_enter Try.func43, Try.ntmps43
      go_wp2_with (go_at_call 42; (with_reducible refine PN.out.mono ?_); rintro e' w1 ⟨g, cv, A', c', rfl, hl1, hcv, hC1, hcell, hs⟩; have H1 : Aside0 (Sit w0 w1 (row93 (.slice none 0 0) [] :: rowI (.slice (some ⟨g, 0, none⟩) 1 cv) [x] :: T)) := ⟨sit_nil93 hs⟩; have c0 := hcell 0 (by simp); simp only [List.getD_cons_zero] at c0; have hcv2 : 1 ≤ cv := hcv; have H2 : Aside0 (l0.length ≤ c' ∧ Kd.C (Kd.int .u8) w0 A' l0.length l0) := ⟨hl1, hC1⟩; clear hs hcell hl1 hC1 hcv)
      clear PN c0
      have HS : Aside0 (rlinesN l0 0 = some ([], l0) ∧ Bytes l0) := ⟨rfl, HB.out⟩
      go_loopg [6, 8, 9, 10, 11, 12] (m + 1) (fun kq v6 v8 v9 v10 v11 v12 w' => ∃ (I : Int) (j : Nat) (A1 A8 : Option Addr) (c1 c8 : Nat) (l : List Int) (L : List S93), v6 = .slice A1 l.length c1 ∧ v8 = .slice A8 L.length c8 ∧ v9 = .int .i64 I ∧ Aside0 (I = (j : Int) ∧ kq + j = m + 1 ∧ j ≤ m) ∧ Aside0 (rlinesN l0 j = some (L, l) ∧ Bytes l) ∧ Aside0 (l.length ≤ c1 ∧ Kd.C (Kd.int .u8) w0 A1 l.length l) ∧ Aside0 (Sit w0 w' (row93 (.slice A8 L.length c8) L :: rowI (.slice (some ⟨g, 0, none⟩) 1 cv) [x] :: T)))
      case atStart => exact ⟨0, 0, A', none, c', 0, l0, [], rfl, rfl, rfl, ⟨⟨rfl, rfl, Nat.zero_le _⟩⟩, HS, H2, H1⟩
      case round =>
        clear HS H1 H2
        obtain ⟨I, j, A1, A8, c1, c8, l, L, rfl, rfl, rfl, HA, HS, H2, H1⟩ := hrel
        cases gk with
        | zero => exact absurd HA.out.2 (by omega)
        | succ k1 =>
          have c0 := sit_rowI2 H1.out.tail 0 (by simp)
          simp only [List.getD_cons_zero] at c0
          by_cases hi : I < x
          · have p1 : decide (I < x) = true := decide_eq_true hi
            have hjn : j < m := by have := HA.out.1; have := HM.out.1; omega
            have hw9 : Aside0 (wrap64 (I + 1) = ((j + 1 : Nat) : Int)) := ⟨by have h3 := HA.out.1; have h4 := HM.out.2; unfold wrap64; omega⟩
            have hLl : L.length ≤ 4 := by have := rlinesN_len HS.out.1; have := HM.out.2; omega
            have hsuc := rlinesN_succ HS.out.1
            cases h3 : numsN l 3 with
            | none =>
              rw [h3] at hsuc
              have HQ := Aside0.mk (rlinesN_none hsuc (show j + 1 ≤ m by omega))
              have PN := Aside0.mk (snums_no (n := 3) (N := 3) rfl (by omega) H1.out H2.out.2 H2.out.1 HS.out.2 h3)
              clear hsuc h3 hjn hi hLl
              go_wp2_with (go_at_call 42; (with_reducible refine PN.out.mono ?_); rintro e' w1 ⟨rfl, hs⟩; have H3 := Aside0.mk hs; clear hs)
              go_ret3
              exact ReadTold.no HQ.out H3.out.tail.tail
            | some p =>
              obtain ⟨ys, l2⟩ := p
              have hlen := numsN_len h3
              obtain ⟨y0, y1, y2, rfl⟩ : ∃ y0 y1 y2, ys = [y0, y1, y2] := by
                match ys, hlen with
                | [y0, y1, y2], _ => exact ⟨y0, y1, y2, rfl⟩
              rw [h3] at hsuc
              simp only [List.getD_cons_zero, List.getD_cons_succ] at hsuc
              have HF := Aside0.mk (numsN_bytes HS.out.2 h3).1
              have PN := Aside0.mk (snums_yes (n := 3) (N := 3) rfl (by omega) (by omega) H1.out H2.out.2 H2.out.1 HS.out.2 h3)
              have HQ := Aside0.mk hsuc
              have HLn := Aside0.mk hLl
              clear hsuc h3 hjn hi hLl hlen
              go_wp2_with (go_at_call 42; (with_reducible refine PN.out.mono ?_); rintro e' w2 ⟨g2, cv2, A2, c2, rfl, hl2, hcv3, hC2, hcell, hs⟩; have H3 := Aside0.mk hs.swap; have x0 := hcell 0 (by simp); have x1 := hcell 1 (by simp); have x2 := hcell 2 (by simp); simp only [List.getD_cons_zero, List.getD_cons_succ] at x0 x1 x2; have hcv4 : 3 ≤ cv2 := hcv3; have H4 : Aside0 (l2.length ≤ c2 ∧ Kd.C (Kd.int .u8) w0 A2 l2.length l2) := ⟨hl2, hC2⟩; have HO := Aside0.mk (sit_own93 hs.swap); clear hs hcell hl2 hC2 hcv3)
              clear PN c0
              go_region_law (refine step_append_cells (w0 := w2) (W := w2.drew) 0 (by rfl) (.tmp 42) (.tmp 53) 24 93 (.agg #[.int .i64 0, .int .i64 0, .int .i64 0]) 3 24 (by rfl) Try.underlying24 info93 rfl (by decide) (by decide) (.slice A8 L.length c8) L.length (flat93 L) (cells93 ⟨y0, y1, y2⟩) (by rfl) (by rfl) rfl (by simp [cells93, Value.oneCell']) HO.out ⟨rfl, rfl, rfl, Nat.le_refl _, fun _ _ => rfl⟩ (Nat.zero_le _) (by have := HLn.out; omega) ?_; intro v1 w9 ho hb hg hat; obtain ⟨L9, hL9⟩ : ∃ L9, L9 = L ++ [(⟨y0, y1, y2⟩ : S93)] := ⟨_, rfl⟩; have hn9 : L.length + 1 = L9.length := (by subst hL9; simp); obtain ⟨A9, c9, rfl⟩ := own_slice ho; have HL9 := Aside0.mk (And.intro hL9 hn9); clear hL9 hn9; have HZ := Aside0.mk (And.intro ho (And.intro hg hat)); clear ho hg hat hb)
              all_goals
                go_wp2
                go_roundg k1
                case measure => omega
                case rel => exact ⟨_, j + 1, A2, A9, c2, c9, l2, L9, rfl, by rw [HL9.out.2], rfl, ⟨hw9.out, by have h1 := HA.out; omega, by have h1 := HA.out; have h2 := of_decide_eq_true p1; have h3 := HM.out; omega⟩, ⟨by rw [HQ.out, HL9.out.1], HF.out⟩, H4, ⟨by rw [← HL9.out.2, HL9.out.1]; exact (sit_append93 H3.out.drew HZ.out.1 HZ.out.2.1 HZ.out.2.2).swap.tail⟩⟩
          · have p1 : decide (I < x) = false := decide_eq_false hi
            have hjm : j = m := by have := HA.out; have := HM.out; omega
            go_wp2
            go_ret3
            exact ReadTold.yes (hjm ▸ HS.out.1) H2.out.1 H2.out.2 H1.out.swap.tail
end Go.Proofs.Ytgdelfckhcgnhaa.Code

namespace Go.Proofs.Ytgdelfckhcgnhaa.Code
open Go.RowKit Go.Proofs.Ytgdelfckhcgnhaa.Pa Go.Proofs.YtgdelfckhcgnhaaW.PrintWords Go.Proofs.YtgdelfckhcgnhaaW.PrintLast Go.Proofs.YtgdelfckhcgnhaaW.PrintMore
set_option linter.unusedVariables false
set_option linter.unusedSimpArgs false

set_option maxRecDepth 100000 in
set_option maxHeartbeats 4000000 in
theorem put_105 (n0 n1 n2 n3 n4 n5 n6 n7 n8 x : Int) (A : Option Addr) (k cap : Nat) (W : World) : Calls Try.prog 45 #[.agg #[.int .i64 n0, .int .i64 n1, .int .i64 n2, .int .i64 n3, .int .i64 n4, .int .i64 n5, .int .i64 n6, .int .i64 n7, .int .i64 n8, .slice A k cap], .int .u8 105, .int .i64 x] W fun e w' => e = .returned (.agg #[.int .i64 n0, .int .i64 x, .int .i64 n2, .int .i64 n3, .int .i64 n4, .int .i64 n5, .int .i64 n6, .int .i64 n7, .int .i64 n8, .slice A k cap]) ∧ Below W.heap.size W w' := by
  go_enter Try.func45, Try.ntmps45
  go_wp2
  refine bodyPost_ret (results_cell_row rfl _ _ (W.heap.size + 1) 26 #[.int .i64 n0, .int .i64 x, .int .i64 n2, .int .i64 n3, .int .i64 n4, .int .i64 n5, .int .i64 n6, .int .i64 n7, .int .i64 n8, .slice A k cap] (0, 0) _ rfl ?hg Try.underlying26 rfl (by rfl)) rfl ⟨rfl, ((Below.refl _ _).alloc (Nat.le_refl _) _).alloc (by simp) _⟩
  have h := heap_alloc_new (W.alloc (.cells #[.int .i64 n0, .int .i64 x, .int .i64 n2, .int .i64 n3, .int .i64 n4, .int .i64 n5, .int .i64 n6, .int .i64 n7, .int .i64 n8, .slice A k cap] 26)) (.cells #[.int .i64 n0, .int .i64 x, .int .i64 n2, .int .i64 n3, .int .i64 n4, .int .i64 n5, .int .i64 n6, .int .i64 n7, .int .i64 n8, .slice A k cap] 26)
  have e : (W.alloc (.cells #[.int .i64 n0, .int .i64 x, .int .i64 n2, .int .i64 n3, .int .i64 n4, .int .i64 n5, .int .i64 n6, .int .i64 n7, .int .i64 n8, .slice A k cap] 26)).heap.size = W.heap.size + 1 := by simp
  rw [e] at h
  exact h
set_option maxRecDepth 100000 in
set_option maxHeartbeats 4000000 in
theorem put_115 (n0 n1 n2 n3 n4 n5 n6 n7 n8 x : Int) (A : Option Addr) (k cap : Nat) (W : World) : Calls Try.prog 45 #[.agg #[.int .i64 n0, .int .i64 n1, .int .i64 n2, .int .i64 n3, .int .i64 n4, .int .i64 n5, .int .i64 n6, .int .i64 n7, .int .i64 n8, .slice A k cap], .int .u8 115, .int .i64 x] W fun e w' => e = .returned (.agg #[.int .i64 n0, .int .i64 n1, .int .i64 x, .int .i64 n3, .int .i64 n4, .int .i64 n5, .int .i64 n6, .int .i64 n7, .int .i64 n8, .slice A k cap]) ∧ Below W.heap.size W w' := by
  go_enter Try.func45, Try.ntmps45
  go_wp2
  refine bodyPost_ret (results_cell_row rfl _ _ (W.heap.size + 1) 26 #[.int .i64 n0, .int .i64 n1, .int .i64 x, .int .i64 n3, .int .i64 n4, .int .i64 n5, .int .i64 n6, .int .i64 n7, .int .i64 n8, .slice A k cap] (0, 0) _ rfl ?hg Try.underlying26 rfl (by rfl)) rfl ⟨rfl, ((Below.refl _ _).alloc (Nat.le_refl _) _).alloc (by simp) _⟩
  have h := heap_alloc_new (W.alloc (.cells #[.int .i64 n0, .int .i64 n1, .int .i64 x, .int .i64 n3, .int .i64 n4, .int .i64 n5, .int .i64 n6, .int .i64 n7, .int .i64 n8, .slice A k cap] 26)) (.cells #[.int .i64 n0, .int .i64 n1, .int .i64 x, .int .i64 n3, .int .i64 n4, .int .i64 n5, .int .i64 n6, .int .i64 n7, .int .i64 n8, .slice A k cap] 26)
  have e : (W.alloc (.cells #[.int .i64 n0, .int .i64 n1, .int .i64 x, .int .i64 n3, .int .i64 n4, .int .i64 n5, .int .i64 n6, .int .i64 n7, .int .i64 n8, .slice A k cap] 26)).heap.size = W.heap.size + 1 := by simp
  rw [e] at h
  exact h
set_option maxRecDepth 100000 in
set_option maxHeartbeats 4000000 in
theorem put_108 (n0 n1 n2 n3 n4 n5 n6 n7 n8 x : Int) (A : Option Addr) (k cap : Nat) (W : World) : Calls Try.prog 45 #[.agg #[.int .i64 n0, .int .i64 n1, .int .i64 n2, .int .i64 n3, .int .i64 n4, .int .i64 n5, .int .i64 n6, .int .i64 n7, .int .i64 n8, .slice A k cap], .int .u8 108, .int .i64 x] W fun e w' => e = .returned (.agg #[.int .i64 n0, .int .i64 n1, .int .i64 n2, .int .i64 x, .int .i64 n4, .int .i64 n5, .int .i64 n6, .int .i64 n7, .int .i64 n8, .slice A k cap]) ∧ Below W.heap.size W w' := by
  go_enter Try.func45, Try.ntmps45
  go_wp2
  refine bodyPost_ret (results_cell_row rfl _ _ (W.heap.size + 1) 26 #[.int .i64 n0, .int .i64 n1, .int .i64 n2, .int .i64 x, .int .i64 n4, .int .i64 n5, .int .i64 n6, .int .i64 n7, .int .i64 n8, .slice A k cap] (0, 0) _ rfl ?hg Try.underlying26 rfl (by rfl)) rfl ⟨rfl, ((Below.refl _ _).alloc (Nat.le_refl _) _).alloc (by simp) _⟩
  have h := heap_alloc_new (W.alloc (.cells #[.int .i64 n0, .int .i64 n1, .int .i64 n2, .int .i64 x, .int .i64 n4, .int .i64 n5, .int .i64 n6, .int .i64 n7, .int .i64 n8, .slice A k cap] 26)) (.cells #[.int .i64 n0, .int .i64 n1, .int .i64 n2, .int .i64 x, .int .i64 n4, .int .i64 n5, .int .i64 n6, .int .i64 n7, .int .i64 n8, .slice A k cap] 26)
  have e : (W.alloc (.cells #[.int .i64 n0, .int .i64 n1, .int .i64 n2, .int .i64 x, .int .i64 n4, .int .i64 n5, .int .i64 n6, .int .i64 n7, .int .i64 n8, .slice A k cap] 26)).heap.size = W.heap.size + 1 := by simp
  rw [e] at h
  exact h
set_option maxRecDepth 100000 in
set_option maxHeartbeats 4000000 in
theorem put_116 (n0 n1 n2 n3 n4 n5 n6 n7 n8 x : Int) (A : Option Addr) (k cap : Nat) (W : World) : Calls Try.prog 45 #[.agg #[.int .i64 n0, .int .i64 n1, .int .i64 n2, .int .i64 n3, .int .i64 n4, .int .i64 n5, .int .i64 n6, .int .i64 n7, .int .i64 n8, .slice A k cap], .int .u8 116, .int .i64 x] W fun e w' => e = .returned (.agg #[.int .i64 n0, .int .i64 n1, .int .i64 n2, .int .i64 n3, .int .i64 x, .int .i64 n5, .int .i64 n6, .int .i64 n7, .int .i64 n8, .slice A k cap]) ∧ Below W.heap.size W w' := by
  go_enter Try.func45, Try.ntmps45
  go_wp2
  refine bodyPost_ret (results_cell_row rfl _ _ (W.heap.size + 1) 26 #[.int .i64 n0, .int .i64 n1, .int .i64 n2, .int .i64 n3, .int .i64 x, .int .i64 n5, .int .i64 n6, .int .i64 n7, .int .i64 n8, .slice A k cap] (0, 0) _ rfl ?hg Try.underlying26 rfl (by rfl)) rfl ⟨rfl, ((Below.refl _ _).alloc (Nat.le_refl _) _).alloc (by simp) _⟩
  have h := heap_alloc_new (W.alloc (.cells #[.int .i64 n0, .int .i64 n1, .int .i64 n2, .int .i64 n3, .int .i64 x, .int .i64 n5, .int .i64 n6, .int .i64 n7, .int .i64 n8, .slice A k cap] 26)) (.cells #[.int .i64 n0, .int .i64 n1, .int .i64 n2, .int .i64 n3, .int .i64 x, .int .i64 n5, .int .i64 n6, .int .i64 n7, .int .i64 n8, .slice A k cap] 26)
  have e : (W.alloc (.cells #[.int .i64 n0, .int .i64 n1, .int .i64 n2, .int .i64 n3, .int .i64 x, .int .i64 n5, .int .i64 n6, .int .i64 n7, .int .i64 n8, .slice A k cap] 26)).heap.size = W.heap.size + 1 := by simp
  rw [e] at h
  exact h
set_option maxRecDepth 100000 in
set_option maxHeartbeats 4000000 in
theorem put_113 (n0 n1 n2 n3 n4 n5 n6 n7 n8 x : Int) (A : Option Addr) (k cap : Nat) (W : World) : Calls Try.prog 45 #[.agg #[.int .i64 n0, .int .i64 n1, .int .i64 n2, .int .i64 n3, .int .i64 n4, .int .i64 n5, .int .i64 n6, .int .i64 n7, .int .i64 n8, .slice A k cap], .int .u8 113, .int .i64 x] W fun e w' => e = .returned (.agg #[.int .i64 n0, .int .i64 n1, .int .i64 n2, .int .i64 n3, .int .i64 n4, .int .i64 x, .int .i64 n6, .int .i64 n7, .int .i64 n8, .slice A k cap]) ∧ Below W.heap.size W w' := by
  go_enter Try.func45, Try.ntmps45
  go_wp2
  refine bodyPost_ret (results_cell_row rfl _ _ (W.heap.size + 1) 26 #[.int .i64 n0, .int .i64 n1, .int .i64 n2, .int .i64 n3, .int .i64 n4, .int .i64 x, .int .i64 n6, .int .i64 n7, .int .i64 n8, .slice A k cap] (0, 0) _ rfl ?hg Try.underlying26 rfl (by rfl)) rfl ⟨rfl, ((Below.refl _ _).alloc (Nat.le_refl _) _).alloc (by simp) _⟩
  have h := heap_alloc_new (W.alloc (.cells #[.int .i64 n0, .int .i64 n1, .int .i64 n2, .int .i64 n3, .int .i64 n4, .int .i64 x, .int .i64 n6, .int .i64 n7, .int .i64 n8, .slice A k cap] 26)) (.cells #[.int .i64 n0, .int .i64 n1, .int .i64 n2, .int .i64 n3, .int .i64 n4, .int .i64 x, .int .i64 n6, .int .i64 n7, .int .i64 n8, .slice A k cap] 26)
  have e : (W.alloc (.cells #[.int .i64 n0, .int .i64 n1, .int .i64 n2, .int .i64 n3, .int .i64 n4, .int .i64 x, .int .i64 n6, .int .i64 n7, .int .i64 n8, .slice A k cap] 26)).heap.size = W.heap.size + 1 := by simp
  rw [e] at h
  exact h
set_option maxRecDepth 100000 in
set_option maxHeartbeats 4000000 in
theorem put_114 (n0 n1 n2 n3 n4 n5 n6 n7 n8 x : Int) (A : Option Addr) (k cap : Nat) (W : World) : Calls Try.prog 45 #[.agg #[.int .i64 n0, .int .i64 n1, .int .i64 n2, .int .i64 n3, .int .i64 n4, .int .i64 n5, .int .i64 n6, .int .i64 n7, .int .i64 n8, .slice A k cap], .int .u8 114, .int .i64 x] W fun e w' => e = .returned (.agg #[.int .i64 n0, .int .i64 n1, .int .i64 n2, .int .i64 n3, .int .i64 n4, .int .i64 n5, .int .i64 x, .int .i64 n7, .int .i64 n8, .slice A k cap]) ∧ Below W.heap.size W w' := by
  go_enter Try.func45, Try.ntmps45
  go_wp2
  refine bodyPost_ret (results_cell_row rfl _ _ (W.heap.size + 1) 26 #[.int .i64 n0, .int .i64 n1, .int .i64 n2, .int .i64 n3, .int .i64 n4, .int .i64 n5, .int .i64 x, .int .i64 n7, .int .i64 n8, .slice A k cap] (0, 0) _ rfl ?hg Try.underlying26 rfl (by rfl)) rfl ⟨rfl, ((Below.refl _ _).alloc (Nat.le_refl _) _).alloc (by simp) _⟩
  have h := heap_alloc_new (W.alloc (.cells #[.int .i64 n0, .int .i64 n1, .int .i64 n2, .int .i64 n3, .int .i64 n4, .int .i64 n5, .int .i64 x, .int .i64 n7, .int .i64 n8, .slice A k cap] 26)) (.cells #[.int .i64 n0, .int .i64 n1, .int .i64 n2, .int .i64 n3, .int .i64 n4, .int .i64 n5, .int .i64 x, .int .i64 n7, .int .i64 n8, .slice A k cap] 26)
  have e : (W.alloc (.cells #[.int .i64 n0, .int .i64 n1, .int .i64 n2, .int .i64 n3, .int .i64 n4, .int .i64 n5, .int .i64 x, .int .i64 n7, .int .i64 n8, .slice A k cap] 26)).heap.size = W.heap.size + 1 := by simp
  rw [e] at h
  exact h
set_option maxRecDepth 100000 in
set_option maxHeartbeats 4000000 in
theorem put_107 (n0 n1 n2 n3 n4 n5 n6 n7 n8 x : Int) (A : Option Addr) (k cap : Nat) (W : World) : Calls Try.prog 45 #[.agg #[.int .i64 n0, .int .i64 n1, .int .i64 n2, .int .i64 n3, .int .i64 n4, .int .i64 n5, .int .i64 n6, .int .i64 n7, .int .i64 n8, .slice A k cap], .int .u8 107, .int .i64 x] W fun e w' => e = .returned (.agg #[.int .i64 n0, .int .i64 n1, .int .i64 n2, .int .i64 n3, .int .i64 n4, .int .i64 n5, .int .i64 n6, .int .i64 x, .int .i64 n8, .slice A k cap]) ∧ Below W.heap.size W w' := by
  go_enter Try.func45, Try.ntmps45
  go_wp2
  refine bodyPost_ret (results_cell_row rfl _ _ (W.heap.size + 1) 26 #[.int .i64 n0, .int .i64 n1, .int .i64 n2, .int .i64 n3, .int .i64 n4, .int .i64 n5, .int .i64 n6, .int .i64 x, .int .i64 n8, .slice A k cap] (0, 0) _ rfl ?hg Try.underlying26 rfl (by rfl)) rfl ⟨rfl, ((Below.refl _ _).alloc (Nat.le_refl _) _).alloc (by simp) _⟩
  have h := heap_alloc_new (W.alloc (.cells #[.int .i64 n0, .int .i64 n1, .int .i64 n2, .int .i64 n3, .int .i64 n4, .int .i64 n5, .int .i64 n6, .int .i64 x, .int .i64 n8, .slice A k cap] 26)) (.cells #[.int .i64 n0, .int .i64 n1, .int .i64 n2, .int .i64 n3, .int .i64 n4, .int .i64 n5, .int .i64 n6, .int .i64 x, .int .i64 n8, .slice A k cap] 26)
  have e : (W.alloc (.cells #[.int .i64 n0, .int .i64 n1, .int .i64 n2, .int .i64 n3, .int .i64 n4, .int .i64 n5, .int .i64 n6, .int .i64 x, .int .i64 n8, .slice A k cap] 26)).heap.size = W.heap.size + 1 := by simp
  rw [e] at h
  exact h
set_option maxRecDepth 100000 in
set_option maxHeartbeats 4000000 in
theorem put_110 (n0 n1 n2 n3 n4 n5 n6 n7 n8 x : Int) (A : Option Addr) (k cap : Nat) (W : World) : Calls Try.prog 45 #[.agg #[.int .i64 n0, .int .i64 n1, .int .i64 n2, .int .i64 n3, .int .i64 n4, .int .i64 n5, .int .i64 n6, .int .i64 n7, .int .i64 n8, .slice A k cap], .int .u8 110, .int .i64 x] W fun e w' => e = .returned (.agg #[.int .i64 n0, .int .i64 n1, .int .i64 n2, .int .i64 n3, .int .i64 n4, .int .i64 n5, .int .i64 n6, .int .i64 n7, .int .i64 x, .slice A k cap]) ∧ Below W.heap.size W w' := by
  go_enter Try.func45, Try.ntmps45
  go_wp2
  refine bodyPost_ret (results_cell_row rfl _ _ (W.heap.size + 1) 26 #[.int .i64 n0, .int .i64 n1, .int .i64 n2, .int .i64 n3, .int .i64 n4, .int .i64 n5, .int .i64 n6, .int .i64 n7, .int .i64 x, .slice A k cap] (0, 0) _ rfl ?hg Try.underlying26 rfl (by rfl)) rfl ⟨rfl, ((Below.refl _ _).alloc (Nat.le_refl _) _).alloc (by simp) _⟩
  have h := heap_alloc_new (W.alloc (.cells #[.int .i64 n0, .int .i64 n1, .int .i64 n2, .int .i64 n3, .int .i64 n4, .int .i64 n5, .int .i64 n6, .int .i64 n7, .int .i64 x, .slice A k cap] 26)) (.cells #[.int .i64 n0, .int .i64 n1, .int .i64 n2, .int .i64 n3, .int .i64 n4, .int .i64 n5, .int .i64 n6, .int .i64 n7, .int .i64 x, .slice A k cap] 26)
  have e : (W.alloc (.cells #[.int .i64 n0, .int .i64 n1, .int .i64 n2, .int .i64 n3, .int .i64 n4, .int .i64 n5, .int .i64 n6, .int .i64 n7, .int .i64 x, .slice A k cap] 26)).heap.size = W.heap.size + 1 := by simp
  rw [e] at h
  exact h
end Go.Proofs.Ytgdelfckhcgnhaa.Code
