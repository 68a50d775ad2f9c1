/- What trail.odd, slices.ContainsFunc over it, trail.May and trail.Add come to. -/
import Derived.Test.YthgganjnodoldaaPa2
import Derived.Test.YthgganjnodoldaaExtSl
namespace Go.Proofs.Ythgganjnodoldaa.Ext
set_option linter.unusedVariables false
open Go.RowKit Go.Proofs.Ythgganjnodoldaa.Pa Go.Proofs.YthgganjnodoldaaW.PrintWords Go.Proofs.YthgganjnodoldaaW.PrintLast Go.Proofs.YthgganjnodoldaaW.PrintMore

/-- May an entry not be? -/
def oddS (x : S35) : Bool := decide (x.f0 < 1) || (decide (x.f0 > 5) || (decide (x.f1 < 0) || (decide (x.f1 ≥ 16) || (decide (x.f2 < 0) || (decide (x.f2 ≥ 4) || (if x.f0 = 2 then (x.f3 == 0 || x.f3 == -9223372036854775808) else decide (x.f3 ≤ 0)))))))
theorem odd_f (x : S35) : trail_odd.f 1 x.f0 x.f1 x.f2 x.f3 = some (oddS x) := by
  unfold trail_odd.f oddS
  by_cases h1 : x.f0 < 1
  · rw [if_pos h1]; simp [trail_odd.j0, h1]
  rw [if_neg h1]
  by_cases h2 : x.f0 > 5
  · rw [if_pos h2]; simp [trail_odd.j0, h2]
  rw [if_neg h2]
  by_cases h3 : x.f1 < 0
  · rw [if_pos h3]; simp [trail_odd.j0, h3]
  rw [if_neg h3]
  by_cases h4 : x.f1 ≥ 16
  · rw [if_pos h4]; simp [trail_odd.j0, h4]
  rw [if_neg h4]
  by_cases h5 : x.f2 < 0
  · rw [if_pos h5]; simp [trail_odd.j0, h5]
  rw [if_neg h5]
  by_cases h6 : x.f2 ≥ 4
  · rw [decide_eq_true h6]; simp [trail_odd.j0]
  rw [decide_eq_false h6]
  simp only [trail_odd.j0, Bool.false_eq_true, if_false, decide_eq_false h1, decide_eq_false h2, decide_eq_false h3, decide_eq_false h4, decide_eq_false h5, Bool.false_or]
  by_cases h7 : x.f0 = 2
  · rw [if_pos h7, if_pos h7]
    by_cases h8 : x.f3 = 0
    · rw [if_pos h8, h8]; rfl
    · rw [if_neg h8, beq_eq_false_iff_ne.2 h8, Bool.false_or]
  · rw [if_neg h7, if_neg h7]
theorem odd_any (x : S35) (w : World) : Calls Try.prog 18 #[.agg #[.int .i64 x.f0, .int .i64 x.f1, .int .i64 x.f2, .int .i64 x.f3]] w fun e w' => e = .returned (.bool (oddS x)) ∧ Below w.heap.size w w' :=
  trail_odd.calls 1 x.f0 x.f1 x.f2 x.f3 (oddS x) w (odd_f x)

/-- Where the first one stands; -1: nowhere. -/
def idxOdd (l : List S35) : Int := if l.any oddS then (l.findIdx oddS : Nat) else -1
theorem idxOdd_some {l : List S35} {k : Nat} (h : k < l.length) (hn : ∀ x ∈ l.take k, oddS x = false) (hp : oddS (l.getD k z35) = true) : idxOdd l = (k : Int) := by
  have hk : l.getD k z35 = l[k] := by simp [h]
  rw [hk] at hp
  have ha : l.any oddS = true := List.any_eq_true.2 ⟨l[k], List.getElem_mem h, hp⟩
  unfold idxOdd
  rw [if_pos ha]
  have : l.findIdx oddS = k := by
    rw [List.findIdx_eq h]
    refine ⟨hp, fun j hj => ?_⟩
    have := hn l[j] (by rw [List.mem_take_iff_getElem]; exact ⟨j, by omega, rfl⟩)
    simpa using this
  rw [this]
theorem idxOdd_none {l : List S35} (hn : ∀ x ∈ l, oddS x = false) : idxOdd l = -1 := by
  unfold idxOdd
  have ha : l.any oddS = false := by rw [List.any_eq_false]; intro x hx; simp [hn x hx]
  rw [ha]; rfl
set_option maxRecDepth 100000 in
set_option maxHeartbeats 4000000 in
theorem indexOdd_any (A0 : Option Addr) (c0 : Nat) (l0 : List S35) (w : World) (hr0 : Kd.C k35 w A0 l0.length l0) (hc0 : l0.length ≤ c0) :
    Calls Try.prog 27 #[.slice A0 l0.length c0, .func (.func 18) #[] #[]] w fun e w' => e = .returned (.int .i64 (idxOdd l0)) ∧ Below w.heap.size w w' := by
  have hmax : l0.length ≤ 9223372036854775807 := Kd.C_max hr0
  have HR := Aside0.mk hr0
  clear hr0
  go_enter Try.func27, Try.ntmps27
  go_wp2
  go_loopw [8] (fun i wr => ∃ k : Nat, k ≤ l0.length ∧ i = .int .i64 k ∧ Aside0 (∀ x ∈ l0.take k, oddS x = false) ∧ Aside0 (Below w.heap.size w wr)) (fun i _ => l0.length - (intOf i).toNat)
  case atStart => exact ⟨0, by omega, rfl, ⟨by simp⟩, ⟨Below.refl _ _⟩⟩
  case round =>
    obtain ⟨k, hk, rfl, HN, HB⟩ := hrel
    by_cases hlt : k < l0.length
    · obtain ⟨ad, rfl, hcs⟩ := at_T35 (Kd.C_below HR.out HB.out) (k : Int) (by omega) (by omega)
      simp only [Int.toNat_natCast] at hcs
      have hx : rd_T35 l0 (k : Int) = l0.getD k z35 := by simp [rd_T35]
      obtain ⟨x, hxx⟩ : ∃ x, x = rd_T35 l0 (k : Int) := ⟨_, rfl⟩
      rw [← hxx] at hcs hx
      have HX := Aside0.mk hx
      clear hx hxx
      obtain ⟨hc0_, hc1_, hc2_, hc3_⟩ := hcs
      cases hp : oddS x with
      | true =>
        have HP := Aside0.mk hp
        have hc := fun W => odd_any x W
        rw [hp] at hc
        clear hp
        go_wp2_with (go_at_call 18; refine (hc _).mono ?_; rintro e w1 ⟨rfl, hb⟩; have HB2 := Aside0.mk hb; clear hb hc)
        go_ret
        exact ⟨by rw [idxOdd_some hlt HN.out (by rw [← HX.out]; exact HP.out)]; rfl, below_then HB.out HB.out.size HB2.out⟩
      | false =>
        have HP := Aside0.mk hp
        have hc := fun W => odd_any x W
        rw [hp] at hc
        clear hp
        go_wp2_with (go_at_call 18; refine (hc _).mono ?_; rintro e w1 ⟨rfl, hb⟩; have HB2 := Aside0.mk hb; clear hb hc)
        refine ⟨⟨k + 1, by omega, by go_num, ⟨fun y hy => ?_⟩, ⟨below_then HB.out HB.out.size HB2.out⟩⟩, by simp [intOf]; omega⟩
        rw [List.take_succ_eq_append_getElem hlt, List.mem_append] at hy
        rcases hy with hy | hy
        · exact HN.out y hy
        · have e1 : y = l0[k] := by simpa using hy
          have e2 : l0.getD k z35 = l0[k] := by simp [hlt]
          rw [e1, ← e2, ← HX.out]; exact HP.out
    · obtain rfl : k = l0.length := by omega
      have hn := HN.out
      rw [List.take_length] at hn
      have HN2 := Aside0.mk hn
      clear hn HN
      go_wp2
      go_ret
      exact ⟨by rw [idxOdd_none HN2.out]; rfl, HB.out⟩

set_option maxRecDepth 100000 in
theorem containsOdd_any (A0 : Option Addr) (c0 : Nat) (l0 : List S35) (w : World) (hr0 : Kd.C k35 w A0 l0.length l0) (hc0 : l0.length ≤ c0) :
    Calls Try.prog 17 #[.slice A0 l0.length c0, .func (.func 18) #[] #[]] w fun e w' => e = .returned (.bool (l0.any oddS)) ∧ Below w.heap.size w w' := by
  have HR := Aside0.mk hr0
  clear hr0
  cases ha : l0.any oddS with
  | true =>
    obtain ⟨i, hi⟩ : ∃ i : Nat, idxOdd l0 = (i : Int) := ⟨_, by unfold idxOdd; rw [if_pos ha]⟩
    have hc := indexOdd_any A0 c0 l0 w HR.out hc0
    rw [hi] at hc
    clear ha hi
    have h0 : decide ((i : Int) ≥ 0) = true := decide_eq_true (by omega)
    go_enter Try.func17, Try.ntmps17
    go_wp2_with (go_at_call 27; refine hc.mono ?_; rintro e w1 ⟨rfl, hb⟩; have HB := Aside0.mk hb; clear hb)
    go_ret
    exact ⟨by first | rfl | simp, HB.out⟩
  | false =>
    have hi : idxOdd l0 = -1 := by unfold idxOdd; rw [ha]; rfl
    have hc := indexOdd_any A0 c0 l0 w HR.out hc0
    rw [hi] at hc
    clear ha hi
    go_enter Try.func17, Try.ntmps17
    go_wp2_with (go_at_call 27; refine hc.mono ?_; rintro e w1 ⟨rfl, hb⟩; have HB := Aside0.mk hb; clear hb)
    go_ret
    exact ⟨by first | rfl | simp, HB.out⟩

end Go.Proofs.Ythgganjnodoldaa.Ext
