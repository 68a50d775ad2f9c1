/- What trail.May, trail.Add and slices.Clone of entries come to: in the form in which the print tells its contracts. -/
import Derived.Test.YthgganjnodoldaaExtOdd
namespace Go.Proofs.Ythgganjnodoldaa.Ext
set_option linter.unusedVariables false
open Go.RowKit Go.Proofs.Ythgganjnodoldaa.Pa Go.Proofs.YthgganjnodoldaaW.PrintWords Go.Proofs.YthgganjnodoldaaW.PrintLast Go.Proofs.YthgganjnodoldaaW.PrintMore

/-- May a trail be? -/
def mayS (l : List S35) : Bool := decide (l.length ≤ 64) && !(l.any oddS)
def trail_May.f (l0 : List S35) : Option Bool := some (mayS l0)
set_option maxRecDepth 100000 in
set_option maxHeartbeats 2000000 in
theorem trail_May.calls (A0 : Option Addr) (c0 : Nat) (l0 : List S35) (r : Bool) (w : World) (hr0 : Kd.C k35 w A0 l0.length l0) (hc0 : l0.length ≤ c0) (h : trail_May.f l0 = some r) :
    Calls Try.prog 15 #[.slice A0 l0.length c0] w fun e w' => e = .returned (.bool r) ∧ Below w.heap.size w w' := by
  obtain rfl := Option.some.inj h
  clear h
  have hmax : l0.length ≤ 9223372036854775807 := Kd.C_max hr0
  have hc := fun W (hb : Below w.heap.size w W) => containsOdd_any A0 c0 l0 W (Kd.C_below hr0 hb) hc0
  by_cases hl : l0.length ≤ 64
  · have h1 : decide (l0.length ≤ 64) = true := decide_eq_true hl
    have h2 : decide ((l0.length : Int) ≤ 64) = true := decide_eq_true (by omega)
    have hm : mayS l0 = !(l0.any oddS) := by unfold mayS; rw [h1]; rfl
    have HM := Aside0.mk hm
    clear hm hl
    generalize l0.any oddS = a at hc HM
    cases a <;> (
      go_enter Try.func15, Try.ntmps15
      go_wp2_with (go_at_call 17; refine (hc _ (Below.refl _ _)).mono ?_; rintro e w1 ⟨rfl, hb⟩; have HB := Aside0.mk hb; clear hb)
      go_ret
      exact ⟨by rw [HM.out]; rfl, HB.out⟩)
  · have h1 : decide (l0.length ≤ 64) = false := decide_eq_false hl
    have h2 : decide ((l0.length : Int) ≤ 64) = false := decide_eq_false (by omega)
    have hm : mayS l0 = false := by unfold mayS; rw [h1]; rfl
    have HM := Aside0.mk hm
    clear hm hc
    go_enter Try.func15, Try.ntmps15
    go_wp2
    go_ret
    exact ⟨by rw [HM.out]; rfl, Below.refl _ _⟩

def addS (l m : List S35) : List S35 × Int := if mayS l = false then ([], 1) else if m.any oddS = true then ([], 1) else if l.length + m.length > 64 then ([], 4) else (l ++ m, 0)
def trail_Add.f (l0 l1 : List S35) : Option (List S35 × Int) := if l1.length ≤ 4398046511104 then some (addS l0 l1) else none
set_option maxRecDepth 100000 in
set_option maxHeartbeats 4000000 in
theorem trail_Add.calls (A0 : Option Addr) (c0 : Nat) (l0 : List S35) (A1 : Option Addr) (c1 : Nat) (l1 : List S35) (r1 : List S35) (r2 : Int) (w : World) (hr0 : Kd.C k35 w A0 l0.length l0) (hc0 : l0.length ≤ c0) (hr1 : Kd.C k35 w A1 l1.length l1) (hc1 : l1.length ≤ c1) (h : trail_Add.f l0 l1 = some (r1, r2)) :
    Calls Try.prog 8 #[.slice A0 l0.length c0, .slice A1 l1.length c1] w fun e w' => ∃ v0_ : Value, e = .returned (.tuple #[v0_, .int .i64 r2]) ∧ Kd.R k35 35 w' w.heap.size (fun _ => True) v0_ r1 ∧ Below w.heap.size w w' := by
  unfold trail_Add.f at h
  by_cases hl1 : l1.length ≤ 4398046511104
  case neg => rw [if_neg hl1] at h; cases h
  rw [if_pos hl1] at h
  have hadd := Option.some.inj h
  clear h
  have hmax : l0.length ≤ 9223372036854775807 := Kd.C_max hr0
  have HR0 := Aside0.mk hr0
  have HR1 := Aside0.mk hr1
  clear hr0 hr1
  have hmay := trail_May.calls A0 c0 l0 (mayS l0) w HR0.out hc0 rfl
  unfold addS at hadd
  cases hm : mayS l0 with
  | false =>
    rw [if_pos hm] at hadd
    obtain ⟨rfl, rfl⟩ := Prod.mk.inj hadd
    rw [hm] at hmay
    clear hadd hm
    go_enter Try.func8, Try.ntmps8
    go_wp2_with (go_at_call 15; refine hmay.mono ?_; rintro e w1 ⟨rfl, hb⟩; have HB := Aside0.mk hb; clear hb)
    go_ret2
    exact ⟨_, rfl, Kd.R_nil _ _ _ _ _, HB.out⟩
  | true =>
    rw [if_neg (by rw [hm]; decide)] at hadd
    have hlen : l0.length ≤ 64 := by unfold mayS at hm; simp at hm; exact hm.1
    rw [hm] at hmay
    clear hm
    have hcon := fun W (hb : Below w.heap.size w W) => containsOdd_any A1 c1 l1 W (Kd.C_below HR1.out hb) hc1
    cases ha : l1.any oddS with
    | true =>
      rw [if_pos ha] at hadd
      obtain ⟨rfl, rfl⟩ := Prod.mk.inj hadd
      rw [ha] at hcon
      clear hadd ha
      go_enter Try.func8, Try.ntmps8
      go_wp2_with (first | (go_at_call 15; refine hmay.mono ?_; rintro e w1 ⟨rfl, hb⟩; have HB := Aside0.mk hb; clear hb hmay) | (go_at_call 17; refine (hcon _ HB.out).mono ?_; rintro e w2 ⟨rfl, hb2⟩; have HB2 := Aside0.mk hb2; clear hb2))
      go_ret2
      exact ⟨_, rfl, Kd.R_nil _ _ _ _ _, below_then HB.out HB.out.size HB2.out⟩
    | false =>
      rw [if_neg (by rw [ha]; decide)] at hadd
      rw [ha] at hcon
      clear ha
      by_cases hs : l0.length + l1.length > 64
      · rw [if_pos hs] at hadd
        obtain ⟨rfl, rfl⟩ := Prod.mk.inj hadd
        have hd : decide ((64 : Int) < (l0.length : Int) + (l1.length : Int)) = true := decide_eq_true (by omega)
        clear hadd
        go_enter Try.func8, Try.ntmps8
        go_wp2_with (first | (go_at_call 15; refine hmay.mono ?_; rintro e w1 ⟨rfl, hb⟩; have HB := Aside0.mk hb; clear hb hmay) | (go_at_call 17; refine (hcon _ HB.out).mono ?_; rintro e w2 ⟨rfl, hb2⟩; have HB2 := Aside0.mk hb2; clear hb2))
        go_ret2
        exact ⟨_, rfl, Kd.R_nil _ _ _ _ _, below_then HB.out HB.out.size HB2.out⟩
      · rw [if_neg hs] at hadd
        obtain ⟨rfl, rfl⟩ := Prod.mk.inj hadd
        have hd : decide ((64 : Int) < (l0.length : Int) + (l1.length : Int)) = false := decide_eq_false (by omega)
        have hs' : l0.length + l1.length ≤ 64 := by omega
        clear hadd hs
        go_enter Try.func8, Try.ntmps8
        go_wp2_with (first | (go_at_call 15; refine hmay.mono ?_; rintro e w1 ⟨rfl, hb⟩; have HB := Aside0.mk hb; clear hb hmay) | (go_at_call 17; refine (hcon _ HB.out).mono ?_; rintro e w2 ⟨rfl, hb2⟩; have HB2 := Aside0.mk hb2; clear hb2) | (go_at_call 19; refine (concat_at35 _ _ [l0, l1] _ rfl (C_two (Kd.C_below (Kd.C_below HR0.out HB.out) HB2.out) hc0 (Kd.C_below (Kd.C_below HR1.out HB.out) HB2.out) hc1) (by simp [tot]; omega)).mono ?_; rintro e w3 ⟨v3, rfl, hv3, hb3⟩; have HV3 := Aside0.mk hv3; have HB3 := Aside0.mk hb3; clear hv3 hb3))
        go_ret2
        refine ⟨_, rfl, ?_, ?_⟩
        · have := Kd.R_lower HV3.out (base' := w.heap.size) (by have := HB.out.size; have := HB2.out.size; simp; omega)
          simpa using this
        · exact below_then HB.out HB.out.size (below_then HB2.out HB2.out.size (below_then ((Below.refl _ _).alloc (Nat.le_refl _) _) (by simp) HB3.out))

def slices_Clone35.f (l0 : List S35) : Option (List S35) := if l0.length ≤ 4398046511104 then some l0 else none
theorem slices_Clone35.calls (A0 : Option Addr) (c0 : Nat) (l0 : List S35) (r : List S35) (w : World) (hr0 : Kd.C k35 w A0 l0.length l0) (hc0 : l0.length ≤ c0) (h : slices_Clone35.f l0 = some r) :
    Calls Try.prog 26 #[.slice A0 l0.length c0] w fun e w' => ∃ v0_ : Value, e = .returned (v0_) ∧ Kd.R k35 35 w' w.heap.size (fun _ => True) v0_ r ∧ Below w.heap.size w w' := by
  unfold slices_Clone35.f at h
  by_cases hl : l0.length ≤ 4398046511104
  case neg => rw [if_neg hl] at h; cases h
  rw [if_pos hl] at h
  obtain rfl := Option.some.inj h
  exact clone_any35 A0 c0 l0 w hr0 hc0 (by omega)
end Go.Proofs.Ythgganjnodoldaa.Ext
