/- Of any bytes any gets answer what the document says (CodeGetsSaid): the walk. No conditions beside those that each theorem states. -/
import Derived.Test.YtamgeophebillaaCodeGetP
import Derived.Deep.QuietTactic
import Derived.BigQuiet
import Derived.IntWalk
import Derived.Deep.RegionLaw
import Derived.Outline
namespace Go.Proofs.Ytamgeophebillaa.Code
open Go.RowKit Go.Proofs.Ytamgeophebillaa.Pa Go.Proofs.YtamgeophebillaaW.PrintWords Go.Proofs.YtamgeophebillaaW.PrintLast Go.Proofs.YtamgeophebillaaW.PrintMore
set_option linter.unusedVariables false

/-- What the reference got of bytes: a number, what is left (of the same row), an error. -/
def RGot (w : World) (A : Option Addr) (bs : List Int) (g : Got Int) (e : Ending) (w' : World) : Prop :=
  ∃ A' c', e = .returned (.tuple #[.int .i64 g.v, .slice A' g.left.length c', .int .i64 g.e]) ∧ g.left.length ≤ c' ∧ (∀ W, Kd.C (Kd.int .u8) W A bs.length bs → Kd.C (Kd.int .u8) W A' g.left.length g.left) ∧ Drawn0 w w'
theorem rgot_cut {w : World} {A : Option Addr} {c n : Nat} {bs : List Int} (v : Int) (hn : n ≤ bs.length) (hc : bs.length ≤ c) (w' : World) (hd : Drawn0 w w') (g : Got Int) (hg : g = ⟨v, bs.drop n, 0⟩) : RGot w A bs g (.returned (.tuple #[.int .i64 v, .slice (if c = n then A else A.map (·.add n)) (bs.length - n) (c - n), .int .i64 0])) w' := by
  subst hg
  refine ⟨if c = n then A else A.map (·.add n), c - n, by rw [List.length_drop], by rw [List.length_drop]; omega, fun W hC => ?_, hd⟩
  have := Kd.C_drop hC hn hc
  have e1 : (Kd.int .u8).sz = 1 := rfl
  rw [e1, Nat.mul_one] at this
  simpa using this
set_option maxRecDepth 100000 in
set_option maxHeartbeats 8000000 in
theorem rgetnum_any (A : Option Addr) (c : Nat) (bs : List Int) (w : World) (hC : Kd.C (Kd.int .u8) w A bs.length bs) (hc : bs.length ≤ c) (hb : Bytes bs) : Calls Try.prog 18 #[.slice A bs.length c] w (RGot w A bs (getNum bs)) := by
  have hcases := look_cases hb
  have hrun := quartermasterref05_run.calls _ A c bs _ _ w hC hc (run_f hb)
  have hput := put_look hb
  have hmax := Kd.C_max hC
  by_cases he : (look 0 0 bs).e = 0
  · have hL : 0 < (look 0 0 bs).long ∧ (look 0 0 bs).long ≤ bs.length ∧ (look 0 0 bs).n < 18446744073709551616 := by rcases hcases with h | h; exact ⟨h.2.1, h.2.2.1, h.2.2.2.2⟩; rcases h.1 with h | h <;> rw [h] at he <;> cases he
    have hp := hput he
    obtain ⟨L, hLe⟩ : ∃ L, L = (look 0 0 bs).long := ⟨_, rfl⟩
    obtain ⟨N, hNe⟩ : ∃ N, N = (look 0 0 bs).n := ⟨_, rfl⟩
    rw [← hLe, ← hNe] at hL hp
    rw [he, ← hLe] at hrun
    have hl : (bs.take L).length = L := by rw [List.length_take]; omega
    have hS : seen bs = if 9223372036854775808 ≤ N then ⟨0, 0, 7⟩ else look 0 0 bs := by
      unfold seen
      rw [← hNe]
      by_cases h : 9223372036854775808 ≤ N
      · rw [if_pos ⟨he, h⟩, if_pos h]
      · rw [if_neg (fun h2 => h h2.2), if_neg h]
    have hG : getNum bs = if 9223372036854775808 ≤ N then ⟨0, bs, 7⟩ else ⟨N, bs.drop L, 0⟩ := by
      unfold getNum
      rw [hS]
      by_cases h : 9223372036854775808 ≤ N
      · rw [if_pos h, if_pos h]; rfl
      · rw [if_neg h, if_neg h, if_pos he, ← hNe, ← hLe]
    have hh := fun m => quartermasterref05_halves.calls 12 A c (bs.take L) _ _ (w.drewN m) (Kd.C_drewN (Kd.C_take hC hL.2.1) m) (by omega) (by rw [← hp]; exact halves_f (Nat.le_refl _) hL.2.2)
    rw [hl] at hh
    obtain ⟨z, hz⟩ : ∃ z : Int, z = ((N / 2 : Nat) : Int) := ⟨_, rfl⟩
    obtain ⟨o, ho⟩ : ∃ o : Int, o = ((N % 2 : Nat) : Int) := ⟨_, rfl⟩
    rw [← hz, ← ho] at hh
    have f1 : (L : Int) ≤ (bs.length : Int) := by omega
    have f2 : (L : Int) ≤ (c : Int) := by omega
    have f3 : (bs.length : Int) ≤ 9223372036854775807 := by omega
    have z0 : 0 ≤ z := by omega
    have o0 : 0 ≤ o := by omega
    have o1 : o ≤ 1 := by omega
    have HH := Aside0.mk hh
    have HRUN := Aside0.mk hrun
    have HX := Aside0.mk (And.intro hL (And.intro hc (And.intro hG (And.intro hz ho))))
    by_cases hbig : 9223372036854775808 ≤ N
    · have zb : (4611686018427387903 : Int) < z := by omega
      rw [hG, if_pos hbig]
      clear hcases hrun hput hmax hp hl hG hh hz ho he hLe hNe hC hc hb hL hbig
      go_enter Try.func18, Try.ntmps18
      go_wp2_with (first | (go_at_call 30; refine HRUN.out.mono ?_; rintro e w1 ⟨rfl, ⟨m, rfl⟩⟩) | (go_at_call 31; refine (HH.out _).mono ?_; rintro e w2 ⟨rfl, ⟨m2, rfl⟩⟩))
      go_ret3
      exact ⟨A, c, rfl, HX.out.2.1, fun _ h => h, ⟨_, rfl⟩⟩
    · have zb : z ≤ 4611686018427387903 := by omega
      have e0 : 2 * z + o = (N : Int) := by omega
      rw [hG, if_neg hbig]
      have HE := Aside0.mk e0
      clear hcases hrun hput hmax hp hl hG hh hz ho he hLe hNe hC hc hb hL hbig e0
      go_enter Try.func18, Try.ntmps18
      go_wp2_with (first | (go_at_call 30; refine HRUN.out.mono ?_; rintro e w1 ⟨rfl, ⟨m, rfl⟩⟩) | (go_at_call 31; refine (HH.out _).mono ?_; rintro e w2 ⟨rfl, ⟨m2, rfl⟩⟩))
      have i1 : IntKind.i64.wrap (2 * z) = 2 * z := IntWalk.i64_in _ (by omega)
      have i2 : IntKind.i64.wrap (2 * z + o) = 2 * z + o := IntWalk.i64_in _ (by omega)
      go_quiet (fail)
      clear i1 i2
      go_wp2
      · go_ret3
        have h := rgot_cut (A := A) (c := L) (2 * z + o) HX.out.1.2.1 (Nat.le_trans HX.out.2.1 (Nat.le_of_eq (by assumption))) (w.drewN (m + m2 + nq)) ⟨_, rfl⟩ ⟨2 * z + o, bs.drop L, 0⟩ rfl
        rw [if_pos rfl, Nat.sub_self] at h
        have e1 := HE.out
        simp only [e1] at h ⊢
        exact h
      · go_ret3
        have h := rgot_cut (A := A) (c := c) (2 * z + o) HX.out.1.2.1 HX.out.2.1 (w.drewN (m + m2 + nq)) ⟨_, rfl⟩ ⟨2 * z + o, bs.drop L, 0⟩ rfl
        rw [if_neg (by assumption)] at h
        have e1 := HE.out
        simp only [e1] at h ⊢
        exact h
  · have hG : getNum bs = ⟨0, bs, (look 0 0 bs).e⟩ := by
      have hS : seen bs = look 0 0 bs := by unfold seen; rw [if_neg (fun h => he h.1)]
      unfold getNum
      rw [hS, if_neg he]
    have h0 : (look 0 0 bs).long = 0 := by rcases hcases with h | h; exact absurd h.1 he; exact h.2.2
    rw [h0] at hrun
    rw [hG]
    obtain ⟨E, hE⟩ : ∃ E, E = (look 0 0 bs).e := ⟨_, rfl⟩
    rw [← hE] at hrun he ⊢
    have e1 : (E != 0) = true := by simp [he]
    have HRUN := Aside0.mk hrun
    clear hcases hput hmax hG h0 hrun hE he
    go_enter Try.func18, Try.ntmps18
    go_wp2_with (go_at_call 30; refine HRUN.out.mono ?_; rintro e w1 ⟨rfl, ⟨m, rfl⟩⟩)
    go_ret3
    exact ⟨A, c, rfl, hc, fun _ h => h, ⟨_, rfl⟩⟩
set_option maxRecDepth 100000 in
set_option maxHeartbeats 8000000 in
theorem rgetint_any (A : Option Addr) (c : Nat) (bs : List Int) (w : World) (hC : Kd.C (Kd.int .u8) w A bs.length bs) (hc : bs.length ≤ c) (hb : Bytes bs) : Calls Try.prog 20 #[.slice A bs.length c] w (RGot w A bs (getInt bs)) := by
  have hcases := look_cases hb
  have hrun := quartermasterref05_run.calls _ A c bs _ _ w hC hc (run_f hb)
  have hput := put_look hb
  have hmax := Kd.C_max hC
  by_cases he : (look 0 0 bs).e = 0
  · have hL : 0 < (look 0 0 bs).long ∧ (look 0 0 bs).long ≤ bs.length ∧ (look 0 0 bs).n < 18446744073709551616 := by rcases hcases with h | h; exact ⟨h.2.1, h.2.2.1, h.2.2.2.2⟩; rcases h.1 with h | h <;> rw [h] at he <;> cases he
    have hp := hput he
    obtain ⟨L, hLe⟩ : ∃ L, L = (look 0 0 bs).long := ⟨_, rfl⟩
    obtain ⟨N, hNe⟩ : ∃ N, N = (look 0 0 bs).n := ⟨_, rfl⟩
    rw [← hLe, ← hNe] at hL hp
    rw [he, ← hLe] at hrun
    have hl : (bs.take L).length = L := by rw [List.length_take]; omega
    have hG : getInt bs = ⟨if N % 2 = 1 then -((N / 2 : Nat) : Int) - 1 else ((N / 2 : Nat) : Int), bs.drop L, 0⟩ := by
      unfold getInt
      rw [if_pos he, ← hNe, ← hLe]
    have hh := fun m => quartermasterref05_halves.calls 12 A c (bs.take L) _ _ (w.drewN m) (Kd.C_drewN (Kd.C_take hC hL.2.1) m) (by omega) (by rw [← hp]; exact halves_f (Nat.le_refl _) hL.2.2)
    rw [hl] at hh
    obtain ⟨z, hz⟩ : ∃ z : Int, z = ((N / 2 : Nat) : Int) := ⟨_, rfl⟩
    obtain ⟨o, ho⟩ : ∃ o : Int, o = ((N % 2 : Nat) : Int) := ⟨_, rfl⟩
    rw [← hz, ← ho] at hh
    have f1 : (L : Int) ≤ (bs.length : Int) := by omega
    have f2 : (L : Int) ≤ (c : Int) := by omega
    have f3 : (bs.length : Int) ≤ 9223372036854775807 := by omega
    have z0 : 0 ≤ z := by omega
    have o0 : 0 ≤ o := by omega
    have o1 : o ≤ 1 := by omega
    have HH := Aside0.mk hh
    have HRUN := Aside0.mk hrun
    have HX := Aside0.mk (And.intro hL (And.intro hc (And.intro hG (And.intro hz ho))))
    have zb : z ≤ 9223372036854775807 := by omega
    by_cases hodd : N % 2 = 1
    · have ho1 : o = 1 := by omega
      have hGz : getInt bs = ⟨-z - 1, bs.drop L, 0⟩ := by rw [hG, if_pos hodd, hz]
      rw [hGz]
      have c1 : (o == 1) = true := beq_iff_eq.2 ho1
      clear ho1 hodd hGz
      clear hcases hrun hput hmax hp hl hG hh hz ho he hLe hNe hC hc hb hL
      go_enter Try.func20, Try.ntmps20
      go_wp2_with (first | (go_at_call 30; refine HRUN.out.mono ?_; rintro e w1 ⟨rfl, ⟨m, rfl⟩⟩) | (go_at_call 31; refine (HH.out _).mono ?_; rintro e w2 ⟨rfl, ⟨m2, rfl⟩⟩))
      have i1 : IntKind.i64.wrap (-z) = -z := IntWalk.i64_in _ (by omega)
      have i2 : IntKind.i64.wrap (-z - 1) = -z - 1 := IntWalk.i64_in _ (by omega)
      go_quiet (fail)
      clear i1 i2
      go_wp2
      · go_ret3
        have h := rgot_cut (A := A) (c := L) (-z - 1) HX.out.1.2.1 (Nat.le_trans HX.out.2.1 (Nat.le_of_eq (by assumption))) (w.drewN (m + m2 + nq)) ⟨_, rfl⟩ ⟨-z - 1, bs.drop L, 0⟩ rfl
        rw [if_pos rfl, Nat.sub_self] at h
        skip
        exact h
      · go_ret3
        have h := rgot_cut (A := A) (c := c) (-z - 1) HX.out.1.2.1 HX.out.2.1 (w.drewN (m + m2 + nq)) ⟨_, rfl⟩ ⟨-z - 1, bs.drop L, 0⟩ rfl
        rw [if_neg (by assumption)] at h
        skip
        exact h
    · have ho1 : o ≠ 1 := by omega
      have hGz : getInt bs = ⟨z, bs.drop L, 0⟩ := by rw [hG, if_neg hodd, hz]
      rw [hGz]
      have c1 : (o == 1) = false := beq_eq_false_iff_ne.2 ho1
      clear ho1 hodd hGz
      clear hcases hrun hput hmax hp hl hG hh hz ho he hLe hNe hC hc hb hL
      go_enter Try.func20, Try.ntmps20
      go_wp2_with (first | (go_at_call 30; refine HRUN.out.mono ?_; rintro e w1 ⟨rfl, ⟨m, rfl⟩⟩) | (go_at_call 31; refine (HH.out _).mono ?_; rintro e w2 ⟨rfl, ⟨m2, rfl⟩⟩))
      have i1 : True := trivial
      have i2 : True := trivial
      go_quiet (fail)
      clear i1 i2
      go_wp2
      · go_ret3
        have h := rgot_cut (A := A) (c := L) (z) HX.out.1.2.1 (Nat.le_trans HX.out.2.1 (Nat.le_of_eq (by assumption))) (w.drewN (m + m2 + nq)) ⟨_, rfl⟩ ⟨z, bs.drop L, 0⟩ rfl
        rw [if_pos rfl, Nat.sub_self] at h
        skip
        exact h
      · go_ret3
        have h := rgot_cut (A := A) (c := c) (z) HX.out.1.2.1 HX.out.2.1 (w.drewN (m + m2 + nq)) ⟨_, rfl⟩ ⟨z, bs.drop L, 0⟩ rfl
        rw [if_neg (by assumption)] at h
        skip
        exact h
  · have hG : getInt bs = ⟨0, bs, (look 0 0 bs).e⟩ := by
      unfold getInt
      rw [if_neg he]
    have h0 : (look 0 0 bs).long = 0 := by rcases hcases with h | h; exact absurd h.1 he; exact h.2.2
    rw [h0] at hrun
    rw [hG]
    obtain ⟨E, hE⟩ : ∃ E, E = (look 0 0 bs).e := ⟨_, rfl⟩
    rw [← hE] at hrun he ⊢
    have e1 : (E != 0) = true := by simp [he]
    have HRUN := Aside0.mk hrun
    clear hcases hput hmax hG h0 hrun hE he
    go_enter Try.func20, Try.ntmps20
    go_wp2_with (go_at_call 30; refine HRUN.out.mono ?_; rintro e w1 ⟨rfl, ⟨m, rfl⟩⟩)
    go_ret3
    exact ⟨A, c, rfl, hc, fun _ h => h, ⟨_, rfl⟩⟩

/-- What the reference got of bytes: bytes of its own, what is left, an error. -/
def RGotB (w : World) (A : Option Addr) (bs : List Int) (g : Got (List Int)) (e : Ending) (w' : World) : Prop :=
  ∃ v A' c', e = .returned (.tuple #[v, .slice A' g.left.length c', .int .i64 g.e]) ∧ g.left.length ≤ c' ∧ (∀ W, Kd.C (Kd.int .u8) W A bs.length bs → Kd.C (Kd.int .u8) W A' g.left.length g.left) ∧ Kd.R (Kd.int .u8) 5 w' w.heap.size (fun _ => True) v g.v ∧ Below w.heap.size w w'
theorem getBytes_num (bs : List Int) : getBytes bs = if (getNum bs).e = 0 then (if 4096 < (getNum bs).v then ⟨[], bs, 2⟩ else if ((getNum bs).left.length : Int) < (getNum bs).v then ⟨[], bs, 6⟩ else ⟨(getNum bs).left.take (getNum bs).v.toNat, (getNum bs).left.drop (getNum bs).v.toNat, 0⟩) else ⟨[], bs, (getNum bs).e⟩ := by
  unfold getBytes getNum
  by_cases h : (seen bs).e = 0
  · rw [if_pos h, if_pos h]
    simp only
    rw [if_pos trivial, List.length_drop, Int.toNat_natCast]
    by_cases h1 : 4096 < (seen bs).n
    · rw [if_pos h1, if_pos (show (4096 : Int) < ((seen bs).n : Int) by omega)]
    · rw [if_neg h1, if_neg (show ¬ (4096 : Int) < ((seen bs).n : Int) by omega)]
      by_cases h2 : bs.length - (seen bs).long < (seen bs).n
      · rw [if_pos h2, if_pos (show ((bs.length - (seen bs).long : Nat) : Int) < ((seen bs).n : Int) by omega)]
      · rw [if_neg h2, if_neg (show ¬ ((bs.length - (seen bs).long : Nat) : Int) < ((seen bs).n : Int) by omega), List.drop_take, List.drop_drop, Nat.add_sub_cancel_left]
  · rw [if_neg h, if_neg h]
    simp only
    rw [if_neg h]
theorem getNum_facts {bs : List Int} (hb : Bytes bs) : (getNum bs).left.length ≤ bs.length ∧ 0 ≤ (getNum bs).v ∧ (getNum bs).v < 9223372036854775808 := by
  unfold getNum
  split
  · refine ⟨by simp only; rw [List.length_drop]; omega, by simp only; omega, ?_⟩
    simp only
    rcases seen_cases hb with h | h
    · omega
    · omega
  · exact ⟨Nat.le_refl _, Int.le_refl _, show (0 : Int) < 9223372036854775808 by decide⟩
theorem rgotb_cut {w w1 : World} {A A' : Option Addr} {c' j : Nat} {bs L : List Int} {v1 : Value} (hj : j ≤ L.length) (hc : L.length ≤ c') (hA : ∀ W, Kd.C (Kd.int .u8) W A bs.length bs → Kd.C (Kd.int .u8) W A' L.length L) (hX : Kd.R (Kd.int .u8) 5 w1 w.heap.size (fun _ => True) v1 ([] ++ L.take j) ∧ Below w.heap.size w w1) : RGotB w A bs ⟨L.take j, L.drop j, 0⟩ (.returned (.tuple #[v1, .slice (if c' = j then A' else A'.map (·.add j)) (L.length - j) (c' - j), .int .i64 0])) w1 := by
  refine ⟨v1, if c' = j then A' else A'.map (·.add j), c' - j, by rw [List.length_drop], by rw [List.length_drop]; omega, fun W hC => ?_, by simpa using hX.1, hX.2⟩
  have := Kd.C_drop (hA W hC) hj hc
  have e1 : (Kd.int .u8).sz = 1 := rfl
  rw [e1, Nat.mul_one] at this
  simpa using this
set_option maxRecDepth 100000 in
set_option maxHeartbeats 8000000 in
theorem rgetbytes_any (A : Option Addr) (c : Nat) (bs : List Int) (w : World) (hC : Kd.C (Kd.int .u8) w A bs.length bs) (hc : bs.length ≤ c) (hb : Bytes bs) : Calls Try.prog 22 #[.slice A bs.length c] w (RGotB w A bs (getBytes bs)) := by
  have hn := rgetnum_any A c bs w hC hc hb
  have hf := getNum_facts hb
  have hmax := Kd.C_max hC
  rw [getBytes_num]
  obtain ⟨g, hg⟩ : ∃ g, g = getNum bs := ⟨_, rfl⟩
  rw [← hg] at hn hf ⊢
  obtain ⟨n, L, E⟩ := g
  simp only at hf
  obtain ⟨h1, h2, h3⟩ := hf
  have HN := Aside0.mk hn
  have HC := Aside0.mk (And.intro hC hc)
  have hL : (L.length : Int) ≤ 9223372036854775807 := by omega
  clear hg hn hC hc hb
  show Calls _ _ _ _ (RGotB w A bs (if E = 0 then (if 4096 < n then ⟨[], bs, 2⟩ else if (L.length : Int) < n then ⟨[], bs, 6⟩ else ⟨L.take n.toNat, L.drop n.toNat, 0⟩) else ⟨[], bs, E⟩))
  by_cases he : E = 0
  · subst he
    rw [if_pos rfl]
    by_cases hbig : 4096 < n
    · rw [if_pos hbig]
      go_enter Try.func22, Try.ntmps22
      go_wp2_with (go_at_call 18; refine HN.out.mono ?_; rintro e w1 ⟨A', c', rfl, hc', hA', ⟨m, rfl⟩⟩)
      go_ret3
      exact ⟨_, A, c, rfl, HC.out.2, fun _ h => h, Kd.R_nil _ _ _ _ _, pw_below_drewN (Below.refl _ _) _⟩
    · rw [if_neg hbig]
      have hbig' : n ≤ 4096 := by omega
      by_cases hs : (L.length : Int) < n
      · rw [if_pos hs]
        clear hbig
        go_enter Try.func22, Try.ntmps22
        go_wp2_with (go_at_call 18; refine HN.out.mono ?_; rintro e w1 ⟨A', c', rfl, hc', hA', ⟨m, rfl⟩⟩; have HA := Aside0.mk hA'; clear hA')
        go_ret3
        exact ⟨_, A, c, rfl, HC.out.2, fun _ h => h, Kd.R_nil _ _ _ _ _, pw_below_drewN (Below.refl _ _) _⟩
      · rw [if_neg hs]
        obtain ⟨j, hj⟩ := Int.eq_ofNat_of_zero_le h2
        rw [show n.toNat = j by omega]
        have hs' : n ≤ (L.length : Int) := by omega
        have HJ := Aside0.mk hj
        have hjl : j ≤ L.length := by omega
        have ht : (L.take j).length = j := by rw [List.length_take]; omega
        have HT := Aside0.mk (And.intro hjl ht)
        clear hbig hs hjl ht hj
        go_enter Try.func22, Try.ntmps22
        go_wp2_with (go_at_call 18; refine HN.out.mono ?_; rintro e w1 ⟨A', c', rfl, hc', hA', ⟨m, rfl⟩⟩; simp only at hc' hA'; have HA := Aside0.mk hA'; clear hA')
        have hj := HJ.out
        clear HJ
        subst hj
        have hcj : (j : Int) ≤ (c' : Int) := by omega
        have HJB : Aside0 ((([] : List Int).length + j) * 1 ≤ 140737488355328) := ⟨by rw [List.length_nil]; omega⟩
        have HR : Aside0 (ReadsRow ((Kd.int .u8).K (w.drewN (m + 1))) 1 (w.drewN (m + 1)) A' j (L.take j)) := ⟨by
          have h := Kd.C_take (HA.out _ (Kd.C_drewN HC.out.1 (m + 1))) HT.out.1
          rw [HT.out.2] at h
          exact h⟩
        go_region_law (refine Kd.R_append_rows_step (Kd.int .u8) (Rr := (Kd.int .u8).K (w.drewN (m + 1))) (w0 := w) (W := (w.drewN (m + 1))) w.heap.size (by rfl) (.const (.slice none 0 0)) (.tmp 28) 26 5 (.int .u8 0) 1 (by rfl) Try.underlying26 infoE5 rfl (show 0 < 1 by decide) (by decide) (.slice none 0 0) [] (L.take j) A' j c' (fun _ => True) (fun _ => True) (by rfl) (by rfl) (Kd.R_nil _ _ _ _ _) HR.out (fun _ _ h => h) (fun k _ => ⟨trivial, by simp [Value.ownBlock]⟩) (fun _ _ => trivial) ⟨rfl, rfl, rfl, Nat.le_refl _, fun _ _ => rfl⟩ (Nat.le_refl _) HJB.out ?_; intro v1 w1 ho hb hg hat; have HX := Aside0.mk (And.intro ho hb); clear ho hb hg hat)
        have HH := Aside0.mk (rgotb_cut HT.out.1 hc' HA.out HX.out)
        clear h3 hmax hL
        go_wp2
        · go_ret3
          have h := HH.out
          rw [if_pos (by assumption)] at h
          have e2 : c' - j = 0 := Nat.sub_eq_zero_of_le (Nat.le_of_eq (by assumption))
          rw [e2] at h
          exact h
        · go_ret3
          have h := HH.out
          rw [if_neg (by assumption)] at h
          exact h
  · rw [if_neg he]
    have e1 : (E != 0) = true := by simp [he]
    clear he
    go_enter Try.func22, Try.ntmps22
    go_wp2_with (go_at_call 18; refine HN.out.mono ?_; rintro e w1 ⟨A', c', rfl, hc', hA', ⟨m, rfl⟩⟩; have HA := Aside0.mk hA'; clear hA')
    go_ret3
    exact ⟨_, A, c, rfl, HC.out.2, fun _ h => h, Kd.R_nil _ _ _ _ _, pw_below_drewN (Below.refl _ _) _⟩
/-! #### The law -/
def viewL (A : Option Addr) (n : Nat) (xs : List Int) : World → (Nat → Prop) → Prop := fun W F => Kd.F (Kd.int .u8) W F A n xs
theorem viewM (A : Option Addr) (n : Nat) (xs : List Int) : Moves (viewL A n xs) := fun h hw hn => Kd.F_kept h hw.kept hn
def Thing.view (A : Option Addr) (xs : List Int) : Thing := .gen (viewL A xs.length xs) (viewM A xs.length xs)
theorem Sit.toView {w0 W : World} {T : List Thing} {A : Option Addr} {n c : Nat} {l : List Int} (h : Sit w0 W (.row (.slice A n c) l :: T)) : Sit w0 W (.view A l :: T) := by
  obtain ⟨hb, F, h1, h2, h3⟩ := h
  have h1' : Kd.R (Kd.int .u8) 5 W 0 F (.slice A n c) l := h1
  have hn := (Kd.R_reads' h1').1
  subst hn
  exact ⟨hb, F, Kd.R_F h1', h2, h3⟩
theorem Sit.cutView {w0 W : World} {T : List Thing} {A A' : Option Addr} {l l' : List Int} (h : Sit w0 W (.view A l :: T)) (hA : ∀ W, Kd.C (Kd.int .u8) W A l.length l → Kd.C (Kd.int .u8) W A' l'.length l') : Sit w0 W (.view A' l' :: T) := by
  obtain ⟨hb, F, h1, h2, h3⟩ := h
  exact ⟨hb, F, fun W' hW => hA W' (h1 W' hW), h2, h3⟩
theorem Sit.view {w0 W : World} {T : List Thing} {A : Option Addr} {l : List Int} (h : Sit w0 W (.view A l :: T)) : Kd.C (Kd.int .u8) W A l.length l := by
  obtain ⟨hb, F, h1, h2, h3⟩ := h
  exact Kd.F_now (show Kd.F (Kd.int .u8) W F A l.length l from h1)
theorem getNum_left {bs : List Int} (hb : Bytes bs) : Bytes (getNum bs).left ∧ (getNum bs).left.length ≤ bs.length := by
  refine ⟨?_, (getNum_facts hb).1⟩
  unfold getNum
  split
  · exact fun x hx => hb x (List.mem_of_mem_drop hx)
  · exact hb
theorem getInt_left {bs : List Int} (hb : Bytes bs) : Bytes (getInt bs).left ∧ (getInt bs).left.length ≤ bs.length := by
  unfold getInt
  split
  · exact ⟨fun x hx => hb x (List.mem_of_mem_drop hx), by simp only; rw [List.length_drop]; omega⟩
  · exact ⟨hb, Nat.le_refl _⟩
theorem getBytes_left {bs : List Int} (hb : Bytes bs) : Bytes (getBytes bs).left ∧ (getBytes bs).left.length ≤ bs.length := by
  unfold getBytes
  split
  · split
    · exact ⟨hb, Nat.le_refl _⟩
    · split
      · exact ⟨hb, Nat.le_refl _⟩
      · exact ⟨fun x hx => hb x (List.mem_of_mem_drop hx), by simp only; rw [List.length_drop]; omega⟩
  · exact ⟨hb, Nat.le_refl _⟩
theorem getBytes_len (bs : List Int) : (getBytes bs).v.length ≤ bs.length := by
  unfold getBytes
  split
  · split
    · simp
    · split
      · simp
      · simp only; rw [List.length_drop, List.length_take]; omega
  · simp
theorem same_nil (w : World) : Calls Try.prog 14 #[.slice none 0 0, .slice none 0 0] w fun e w' => e = .returned (.bool true) ∧ Drawn0 w w' :=
  same_any (c0 := 0) (c1 := 0) (a := []) (b := []) (Kd.C_nil _ _) (Nat.le_refl _) (Kd.C_nil _ _) (Nat.le_refl _) (by simp)
set_option maxRecDepth 100000 in
set_option maxHeartbeats 32000000 in
theorem codeGets_any (A0 : Option Addr) (c0 : Nat) (b : List Int) (A1 : Option Addr) (c1 : Nat) (l : List Int) (w : World) (hr : Kd.C (Kd.int .u8) w A0 b.length b) (hc : b.length ≤ c0) (hb : Bytes b) (hz : b.length ≤ 140737488351232) (hr1 : Kd.C (Kd.int .i64) w A1 l.length l) : Calls Try.prog 4 #[.slice A0 b.length c0, .slice A1 l.length c1] w fun e w' => e = .returned (.bool true) ∧ Below w.heap.size w w' := by
  have HR := Aside0.mk (And.intro hr (And.intro hc (And.intro hb (And.intro hz hr1))))
  have hmax := Kd.C_max hr
  have hmax1 := Kd.C_max hr1
  obtain ⟨n, hn⟩ : ∃ n, n = b.length := ⟨_, rfl⟩
  have HNN := Aside0.mk hn
  rw [← hn] at hmax hz ⊢
  obtain ⟨n1, hn1⟩ : ∃ n1, n1 = l.length := ⟨_, rfl⟩
  have HNN1 := Aside0.mk hn1
  rw [← hn1] at hmax1 ⊢
  clear hr hc hb hr1 hn hn1
  have p1 := awake_any w
  go_enter Try.func4, Try.ntmps4
  go_wp2_with fail
  go_at_call 8
  refine p1.mono ?_
  rintro e w1 ⟨rfl, hb⟩
  have p2 := sit_newin (c := c0) ((Sit.refl w).behind hb) (Kd.C_below HR.out.1 hb) HR.out.2.1 HR.out.2.2.1 HR.out.2.2.2.1
  rw [← HNN.out] at p2
  clear p1 hb
  go_wp2_with fail
  go_at_call 16
  refine p2.mono ?_
  rintro e w2 ⟨g, rfl, hs⟩
  have HS := Aside0.mk hs
  clear p2 hs
  by_cases h1 : (6000 : Int) < (n : Int)
  · go_wp2
    go_ret
    exact ⟨rfl, HS.out.below⟩
  by_cases h2 : (60 : Int) < (n1 : Int)
  · go_wp2
    go_ret
    exact ⟨rfl, HS.out.below⟩
  have h1' : (n : Int) ≤ 6000 := by omega
  have h2' : (n1 : Int) ≤ 60 := by omega
  clear h1 h2
  go_wp2_with ((with_reducible refine gate_builtin (b := .append) (xs := #[.const (.slice none 0 0), .tmp 40]) rfl ?_); at_builtin; refine Kd.R_append_row (Value.int .u8) 0 (w0 := w2) (h1 := fun _ => rfl) w2.heap.size rfl (.const (.slice none 0 0)) (.tmp 40) 26 5 (.int .u8 0) 1 rfl Try.underlying26 infoE5 rfl (by decide) (.slice none 0 0) [] b A0 n c0 (fun k => True) rfl rfl (fun k hk => trivial) (Kd.R_nil _ _ _ _ _) ?aC (Below.refl _ _) (Nat.le_refl _) ?aL ?_; (case aC => rw [HNN.out]; exact Kd.C_below HR.out.1 HS.out.below); (case aL => rw [List.length_nil]; omega); intro v1 w3 ho hb hg hat; rw [List.nil_append] at ho; obtain ⟨A3, c3, rfl⟩ := Kd.R_slice ho; have HV := Aside0.mk (And.intro (Kd.R_reads' ho).2.1 (HS.out.newrow hb ho).toView); clear ho hb hg hat)
  rw [← HNN.out] at HV ⊢
  have S0 := Aside0.mk HV.out.2.swap
  have hc3 := HV.out.1
  go_wp2
  go_loopw [7, 8] (fun lv iv wr => ∃ (k : Nat) (A : Option Addr) (c : Nat) (bs : List Int) (m : Nat), k ≤ n1 ∧ iv = .int .i64 k ∧ lv = .slice A m c ∧ m ≤ c ∧ m ≤ 6000 ∧ Aside0 (m = bs.length) ∧ Aside0 (Bytes bs) ∧ Aside0 (Sit w wr [.inn g bs, .view A bs])) (fun _ iv _ => n1 - (intOf iv).toNat)
  case atStart => exact ⟨0, A3, c3, b, n, by omega, rfl, rfl, hc3, by omega, HNN, ⟨HR.out.2.2.1⟩, S0⟩
  case round =>
    clear S0 HV hc3
    obtain ⟨k, A, c, bs, m, hk, rfl, rfl, hmc, hm6, HM, HB, HS⟩ := hrel
    by_cases hlt : k < n1
    · obtain ⟨ad, rfl, hcell0⟩ := Kd.at_int HR.out.2.2.2.2 (k : Int) (by omega) (by rw [← HNN1.out]; omega)
      rw [Int.toNat_natCast] at hcell0
      have hcell := pw_cell_below HS.out.below hcell0
      obtain ⟨x, hx⟩ : ∃ x, x = rd l k := ⟨_, rfl⟩
      rw [← hx] at hcell
      clear hx hcell0
      by_cases k0 : x = 0
      · have e0 : (x == 0) = true := beq_iff_eq.2 k0
        have p := sit_getnum HS.out
        have hlf := getNum_left HB.out
        have pr := fun W (hC : Kd.C (Kd.int .u8) W A bs.length bs) => rgetnum_any A c bs W hC (by rw [← HM.out]; exact hmc) HB.out
        obtain ⟨gg, hgg⟩ : ∃ gg, gg = getNum bs := ⟨_, rfl⟩
        rw [← hgg] at p hlf pr
        obtain ⟨v, left, er⟩ := gg
        obtain ⟨m', hm'⟩ : ∃ m', m' = left.length := ⟨_, rfl⟩
        have HM' := Aside0.mk hm'
        have hm6' : m' ≤ 6000 := by have h := hlf.2; rw [← HM.out, ← hm'] at h; omega
        have HB' := Aside0.mk hlf.1
        rw [← HM.out] at pr
        have HPR := Aside0.mk pr
        clear hgg hm' hlf pr
        simp only at p
        go_wp2_with fail
        go_at_call 17
        refine p.mono ?_
        rintro e w5 ⟨rfl, hs⟩
        have pr := HPR.out _ (by have h := hs.swap.view; rw [← HM.out] at h; exact h)
        have HS5 := Aside0.mk hs
        clear p hs
        go_wp2_with fail
        go_at_call 18
        refine pr.mono ?_
        rintro e w6 ⟨A', c', rfl, hc', hA', hd⟩
        simp only at hc' hA'
        rw [← HM.out] at hA'
        have HS6 := Aside0.mk ((HS5.out.drawn hd).swap.cutView (A' := A') (l' := left) (by rw [← HM.out]; exact hA')).swap
        rw [← HM'.out] at hc' ⊢
        clear pr hA' hd
        go_wp2_with fail
        go_at_call 14
        refine (same_nil _).mono ?_
        rintro e w7 ⟨rfl, hd⟩
        have HS7 := Aside0.mk (HS6.out.drawn hd)
        have pl := sit_left HS7.out
        rw [← HM'.out] at pl
        clear hd
        go_wp2_with fail
        go_at_call 23
        refine pl.mono ?_
        rintro e w8 ⟨rfl, rfl⟩
        clear pl
        go_wp2
        exact ⟨⟨k + 1, A', c', left, m', by omega, by go_num, rfl, hc', hm6', HM', HB', HS7⟩, by simp [intOf]; omega⟩
      · have e0 : (x == 0) = false := beq_eq_false_iff_ne.2 k0
        by_cases k1 : x = 1
        · have e1 : (x == 1) = true := beq_iff_eq.2 k1
          have p := sit_getint HS.out
          have hlf := getInt_left HB.out
          have pr := fun W (hC : Kd.C (Kd.int .u8) W A bs.length bs) => rgetint_any A c bs W hC (by rw [← HM.out]; exact hmc) HB.out
          obtain ⟨gg, hgg⟩ : ∃ gg, gg = getInt bs := ⟨_, rfl⟩
          rw [← hgg] at p hlf pr
          obtain ⟨v, left, er⟩ := gg
          obtain ⟨m', hm'⟩ : ∃ m', m' = left.length := ⟨_, rfl⟩
          have HM' := Aside0.mk hm'
          have hm6' : m' ≤ 6000 := by have h := hlf.2; rw [← HM.out, ← hm'] at h; omega
          have HB' := Aside0.mk hlf.1
          rw [← HM.out] at pr
          have HPR := Aside0.mk pr
          clear hgg hm' hlf pr
          simp only at p
          go_wp2_with fail
          go_at_call 19
          refine p.mono ?_
          rintro e w5 ⟨rfl, hs⟩
          have pr := HPR.out _ (by have h := hs.swap.view; rw [← HM.out] at h; exact h)
          have HS5 := Aside0.mk hs
          clear p hs
          go_wp2_with fail
          go_at_call 20
          refine pr.mono ?_
          rintro e w6 ⟨A', c', rfl, hc', hA', hd⟩
          simp only at hc' hA'
          rw [← HM.out] at hA'
          have HS6 := Aside0.mk ((HS5.out.drawn hd).swap.cutView (A' := A') (l' := left) (by rw [← HM.out]; exact hA')).swap
          rw [← HM'.out] at hc' ⊢
          clear pr hA' hd
          go_wp2_with fail
          go_at_call 14
          refine (same_nil _).mono ?_
          rintro e w7 ⟨rfl, hd⟩
          have HS7 := Aside0.mk (HS6.out.drawn hd)
          have pl := sit_left HS7.out
          rw [← HM'.out] at pl
          clear hd
          go_wp2_with fail
          go_at_call 23
          refine pl.mono ?_
          rintro e w8 ⟨rfl, rfl⟩
          clear pl
          go_wp2
          exact ⟨⟨k + 1, A', c', left, m', by omega, by go_num, rfl, hc', hm6', HM', HB', HS7⟩, by simp [intOf]; omega⟩
        · have e1 : (x == 1) = false := beq_eq_false_iff_ne.2 k1
          have p := sit_getbytes HS.out
          have hlf := getBytes_left HB.out
          have hvl := getBytes_len bs
          have pr := fun W (hC : Kd.C (Kd.int .u8) W A bs.length bs) => rgetbytes_any A c bs W hC (by rw [← HM.out]; exact hmc) HB.out
          obtain ⟨gg, hgg⟩ : ∃ gg, gg = getBytes bs := ⟨_, rfl⟩
          rw [← hgg] at p hlf pr hvl
          obtain ⟨v, left, er⟩ := gg
          obtain ⟨m', hm'⟩ : ∃ m', m' = left.length := ⟨_, rfl⟩
          have HM' := Aside0.mk hm'
          have hm6' : m' ≤ 6000 := by have h := hlf.2; rw [← HM.out, ← hm'] at h; omega
          have HB' := Aside0.mk hlf.1
          rw [← HM.out] at pr
          have HPR := Aside0.mk pr
          clear hgg hm' hlf pr
          simp only at p hvl
          rw [← HM.out] at hvl
          go_wp2_with fail
          go_at_call 21
          refine p.mono ?_
          rintro e w5 ⟨A5, c5, rfl, hc5, hs⟩
          have pr := HPR.out _ (by have h := hs.tail.swap.view; rw [← HM.out] at h; exact h)
          have HS5 := Aside0.mk (And.intro hc5 hs)
          obtain ⟨mv, hmv⟩ : ∃ mv, mv = v.length := ⟨_, rfl⟩
          rw [← hmv]
          have HMV := Aside0.mk hmv
          clear p hs hc5 hmv
          go_wp2_with fail
          go_at_call 22
          refine pr.mono ?_
          rintro e w6 ⟨v6, A', c', rfl, hc', hA', hr6, hb6⟩
          simp only at hc' hA' hr6
          obtain ⟨A6, c6, rfl⟩ := Kd.R_slice hr6
          have h6 := Kd.R_reads' hr6
          have hv := (HS5.out.2.behind hb6).row
          have ps := same_any (c0 := c5) (c1 := c6) hv.2.2 HS5.out.1 h6.2.2 h6.2.1 (by omega)
          rw [show (v == v) = true by simp, ← HMV.out] at ps
          rw [← HM.out] at hA'
          have HS6 := Aside0.mk ((HS5.out.2.behind hb6).tail.swap.cutView (A' := A') (l' := left) (by rw [← HM.out]; exact hA')).swap
          rw [← HM'.out] at hc' ⊢
          rw [← HMV.out]
          clear pr hA' hr6 hb6 h6 hv
          go_wp2_with fail
          go_at_call 14
          refine ps.mono ?_
          rintro e w7 ⟨rfl, hd⟩
          have HS7 := Aside0.mk (HS6.out.drawn hd)
          have pl := sit_left HS7.out
          rw [← HM'.out] at pl
          clear hd
          go_wp2_with fail
          go_at_call 23
          refine pl.mono ?_
          rintro e w8 ⟨rfl, rfl⟩
          clear pl
          go_wp2
          exact ⟨⟨k + 1, A', c', left, m', by omega, by go_num, rfl, hc', hm6', HM', HB', HS7⟩, by simp [intOf]; omega⟩
    · have hkk : ¬ k < n1 := hlt
      have HX := HS.out.below
      clear HS
      have HY := Aside0.mk HX
      clear HX
      go_wp2
      go_ret
      exact ⟨rfl, HY.out⟩
theorem codeGets_calls (A0 : Option Addr) (c0 : Nat) (b : List Int) (A1 : Option Addr) (c1 : Nat) (l : List Int) (w : World) (h1 : b.length ≤ maxLen) (h2 : ∀ z ∈ b, (Lit.int .u8 z).wf = true) (h3 : b.length * 1 ≤ 140737488351232) (h4 : l.length ≤ maxLen) (h5 : ∀ z ∈ l, (Lit.int .i64 z).wf = true) (h6 : Kd.C (Kd.int .u8) w A0 b.length b) (h7 : b.length ≤ c0) (h8 : Kd.C (Kd.int .i64) w A1 l.length l) (h9 : l.length ≤ c1) : Calls Try.prog 4 #[.slice A0 b.length c0, .slice A1 l.length c1] w fun e w' => e = .returned (.bool true) ∧ Below w.heap.size w w' :=
  codeGets_any A0 c0 b A1 c1 l w h6 h7 (fun y hy => by
    have := h2 y hy
    simp [Lit.wf, IntKind.min, IntKind.max, IntKind.bits, IntKind.signed] at this
    omega) (by omega) h8
end Go.Proofs.Ytamgeophebillaa.Code
