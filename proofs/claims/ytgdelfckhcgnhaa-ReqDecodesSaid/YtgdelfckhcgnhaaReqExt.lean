/- req: what Encode, Decode, Answer and Told come to, in the form in which the print tells its contracts. -/
import Derived.Test.YtgdelfckhcgnhaaReqTold
namespace Go.Proofs.Ytgdelfckhcgnhaa.Ext
open Go Go.RowKit Go.Proofs.Ytgdelfckhcgnhaa.Pa Go.Proofs.Ytgdelfckhcgnhaa.Code Go.Proofs.YtgdelfckhcgnhaaW.PrintWords Go.Proofs.YtgdelfckhcgnhaaW.PrintLast Go.Proofs.YtgdelfckhcgnhaaW.PrintMore
set_option linter.unusedVariables false

def in64B (x : Int) : Bool := decide (-9223372036854775808 ≤ x) && decide (x < 9223372036854775808)
theorem in64B_iff (x : Int) : in64B x = true ↔ In64 x := by unfold in64B In64; simp
def lim3B (y : S93) : Bool := in64B y.f0 && in64B y.f1 && in64B y.f2
def lim4B (y : S76) : Bool := in64B y.f0 && in64B y.f1 && in64B y.f2 && in64B y.f3
theorem lim3B_lim {L : List S93} (h : L.all lim3B = true) : ∀ y ∈ L, Lim3 y := fun y hy => by
  have h1 := List.all_eq_true.1 h y hy
  simp only [lim3B, Bool.and_eq_true, in64B_iff] at h1
  exact ⟨h1.1.1.2, h1.1.2.2, h1.2.2⟩
theorem lim4B_lim {L : List S76} (h : L.all lim4B = true) : ∀ y ∈ L, Lim4 y := fun y hy => by
  have h1 := List.all_eq_true.1 h y hy
  simp only [lim4B, Bool.and_eq_true, in64B_iff] at h1
  exact ⟨h1.1.1.1.2, h1.1.1.2.2, h1.1.2.2, h1.2.1, h1.2.2⟩
def okReq (ns : List Int) (L : List S93) : Bool := ns.all in64B && (L.all lim3B && decide (L.length ≤ 20))
def okRep (r : Rep) : Bool := ([r.c, r.a, r.b].all in64B && r.L.all lim3B) && (r.K.all lim4B && (decide (r.L.length ≤ 20) && decide (r.K.length ≤ 20)))
def okBytes (l : List Int) : Bool := l.all (fun x => decide (0 ≤ x) && decide (x < 256)) && decide (l.length ≤ 140737488351232)
theorem okReq_out {ns : List Int} {L : List S93} (h : okReq ns L = true) : (∀ x ∈ ns, In64 x) ∧ (∀ y ∈ L, Lim3 y) ∧ L.length ≤ 20 := by
  simp only [okReq, Bool.and_eq_true, decide_eq_true_eq] at h
  exact ⟨fun x hx => (in64B_iff x).1 (List.all_eq_true.1 h.1 x hx), lim3B_lim h.2.1, h.2.2⟩
theorem okRep_out {r : Rep} (h : okRep r = true) : r.Ok := by
  simp only [okRep, Bool.and_eq_true, decide_eq_true_eq] at h
  have h1 := fun x hx => (in64B_iff x).1 (List.all_eq_true.1 h.1.1 x hx)
  exact ⟨h1 _ (by simp), h1 _ (by simp), h1 _ (by simp), lim3B_lim h.1.2, lim4B_lim h.2.1, h.2.2.1, h.2.2.2⟩
theorem okBytes_out {l : List Int} (h : okBytes l = true) : Bytes l ∧ l.length ≤ 140737488351232 := by
  simp only [okBytes, Bool.and_eq_true, decide_eq_true_eq] at h
  refine ⟨fun x hx => ?_, h.2⟩
  have h1 := List.all_eq_true.1 h.1 x hx
  simp only [Bool.and_eq_true, decide_eq_true_eq] at h1
  exact h1

def req_Encode.f (a0_0 : Int) (a0_1 : Int) (a0_2 : Int) (a0_3 : Int) (a0_4 : Int) (a0_5 : Int) (a0_6 : Int) (a0_7 : Int) (a0_8 : Int) (l0_9 : List (S93)) : Option (List Int × Int) := if okReq [a0_0, a0_1, a0_2, a0_3, a0_4, a0_5, a0_6, a0_7, a0_8] l0_9 then some (encP [a0_0, a0_1, a0_2, a0_3, a0_4, a0_5, a0_6, a0_7, a0_8] l0_9) else none
theorem req_Encode.calls (a0_0 : Int) (a0_1 : Int) (a0_2 : Int) (a0_3 : Int) (a0_4 : Int) (a0_5 : Int) (a0_6 : Int) (a0_7 : Int) (a0_8 : Int) (A0_9 : Option Addr) (c0_9 : Nat) (l0_9 : List (S93)) (r1 : List Int) (r2 : Int) (w : World) (hr0_9 : Kd.C k93 w A0_9 l0_9.length l0_9) (hc0_9 : l0_9.length ≤ c0_9) (h : req_Encode.f a0_0 a0_1 a0_2 a0_3 a0_4 a0_5 a0_6 a0_7 a0_8 l0_9 = some (r1, r2)) :
    Calls Try.prog 11 #[.agg #[.int .i64 a0_0, .int .i64 a0_1, .int .i64 a0_2, .int .i64 a0_3, .int .i64 a0_4, .int .i64 a0_5, .int .i64 a0_6, .int .i64 a0_7, .int .i64 a0_8, .slice A0_9 l0_9.length c0_9]] w fun e w' => ∃ v0_ : Value, e = .returned (.tuple #[v0_, .int .i64 r2]) ∧ Kd.R (Kd.int .u8) 5 w' w.heap.size (fun _ => True) v0_ r1 ∧ Below w.heap.size w w' := by
  unfold req_Encode.f at h
  by_cases hp : okReq [a0_0, a0_1, a0_2, a0_3, a0_4, a0_5, a0_6, a0_7, a0_8] l0_9 = true
  · rw [if_pos hp] at h
    obtain ⟨h1, h2, h3⟩ := okReq_out hp
    have p := encode_any a0_0 a0_1 a0_2 a0_3 a0_4 a0_5 a0_6 a0_7 a0_8 A0_9 c0_9 l0_9 w hr0_9 hc0_9 h1 h2 h3
    rw [Option.some.inj h] at p
    exact p
  · rw [if_neg hp] at h; cases h
def req_Answer.f (a0_0 : Int) (a0_1 : Int) (a0_2 : Int) (l0_3 : List (S93)) (l0_4 : List (S76)) : Option (List Int × Int) := if okRep ⟨a0_0, a0_1, a0_2, l0_3, l0_4⟩ then some (ansP ⟨a0_0, a0_1, a0_2, l0_3, l0_4⟩) else none
theorem req_Answer.calls (a0_0 : Int) (a0_1 : Int) (a0_2 : Int) (A0_3 : Option Addr) (c0_3 : Nat) (l0_3 : List (S93)) (A0_4 : Option Addr) (c0_4 : Nat) (l0_4 : List (S76)) (r1 : List Int) (r2 : Int) (w : World) (hr0_3 : Kd.C k93 w A0_3 l0_3.length l0_3) (hc0_3 : l0_3.length ≤ c0_3) (hr0_4 : Kd.C k76 w A0_4 l0_4.length l0_4) (hc0_4 : l0_4.length ≤ c0_4) (h : req_Answer.f a0_0 a0_1 a0_2 l0_3 l0_4 = some (r1, r2)) :
    Calls Try.prog 14 #[.agg #[.int .i64 a0_0, .int .i64 a0_1, .int .i64 a0_2, .slice A0_3 l0_3.length c0_3, .slice A0_4 l0_4.length c0_4]] w fun e w' => ∃ v0_ : Value, e = .returned (.tuple #[v0_, .int .i64 r2]) ∧ Kd.R (Kd.int .u8) 5 w' w.heap.size (fun _ => True) v0_ r1 ∧ Below w.heap.size w w' := by
  unfold req_Answer.f at h
  by_cases hp : okRep ⟨a0_0, a0_1, a0_2, l0_3, l0_4⟩ = true
  · rw [if_pos hp] at h
    have p := answer_any ⟨a0_0, a0_1, a0_2, l0_3, l0_4⟩ A0_3 A0_4 c0_3 c0_4 w hr0_3 hc0_3 hr0_4 hc0_4 (okRep_out hp)
    rw [Option.some.inj h] at p
    exact p
  · rw [if_neg hp] at h; cases h
def tuple9 (ns : List Int) (L : List S93) (e : Int) : Int × Int × Int × Int × Int × Int × Int × Int × Int × (List (S93)) × Int := (ns.getD 0 0, ns.getD 1 0, ns.getD 2 0, ns.getD 3 0, ns.getD 4 0, ns.getD 5 0, ns.getD 6 0, ns.getD 7 0, ns.getD 8 0, L, e)
def req_Decode.f (l0 : List Int) : Option (Int × Int × Int × Int × Int × Int × Int × Int × Int × (List (S93)) × Int) := if okBytes l0 then some (tuple9 (decP l0).1.1 (decP l0).1.2 (decP l0).2) else none
theorem req_Decode.calls (A0 : Option Addr) (c0 : Nat) (l0 : List Int) (r1 : Int) (r2 : Int) (r3 : Int) (r4 : Int) (r5 : Int) (r6 : Int) (r7 : Int) (r8 : Int) (r9 : Int) (r10 : List (S93)) (r11 : Int) (w : World) (hr0 : Kd.C (Kd.int .u8) w A0 l0.length l0) (hc0 : l0.length ≤ c0) (h : req_Decode.f l0 = some (r1, r2, r3, r4, r5, r6, r7, r8, r9, r10, r11)) :
    Calls Try.prog 9 #[.slice A0 l0.length c0] w fun e w' => ∃ v9_ : Value, e = .returned (.tuple #[.agg #[.int .i64 r1, .int .i64 r2, .int .i64 r3, .int .i64 r4, .int .i64 r5, .int .i64 r6, .int .i64 r7, .int .i64 r8, .int .i64 r9, v9_], .int .i64 r11]) ∧ Kd.R k93 93 w' w.heap.size (fun _ => True) v9_ r10 ∧ Below w.heap.size w w' := by
  unfold req_Decode.f at h
  by_cases hp : okBytes l0 = true
  · rw [if_pos hp] at h
    obtain ⟨h1, h2⟩ := okBytes_out hp
    have h3 := Option.some.inj h
    refine (decode_any A0 c0 l0 w hr0 hc0 h1 h2).mono ?_
    rintro e w' ⟨m0, m1, m2, m3, m4, m5, m6, m7, m8, v9, hm, rfl, hR, hb⟩
    simp only [tuple9, hm, List.getD_cons_zero, List.getD_cons_succ, Prod.mk.injEq] at h3
    obtain ⟨rfl, rfl, rfl, rfl, rfl, rfl, rfl, rfl, rfl, rfl, rfl⟩ := h3
    exact ⟨v9, rfl, hR, hb⟩
  · rw [if_neg hp] at h; cases h
def req_Told.f (l0 : List Int) : Option (Int × Int × Int × (List (S93)) × (List (S76)) × Int) := if okBytes l0 then some ((toldP l0).1.c, (toldP l0).1.a, (toldP l0).1.b, (toldP l0).1.L, (toldP l0).1.K, (toldP l0).2) else none
theorem req_Told.calls (A0 : Option Addr) (c0 : Nat) (l0 : List Int) (r1 : Int) (r2 : Int) (r3 : Int) (r4 : List (S93)) (r5 : List (S76)) (r6 : Int) (w : World) (hr0 : Kd.C (Kd.int .u8) w A0 l0.length l0) (hc0 : l0.length ≤ c0) (h : req_Told.f l0 = some (r1, r2, r3, r4, r5, r6)) :
    Calls Try.prog 20 #[.slice A0 l0.length c0] w fun e w' => ∃ v3_ v4_ : Value, e = .returned (.tuple #[.agg #[.int .i64 r1, .int .i64 r2, .int .i64 r3, v3_, v4_], .int .i64 r6]) ∧ Kd.R k93 93 w' w.heap.size (fun _ => True) v3_ r4 ∧ Kd.R k76 76 w' w.heap.size (fun _ => True) v4_ r5 ∧ Below w.heap.size w w' := by
  unfold req_Told.f at h
  by_cases hp : okBytes l0 = true
  · rw [if_pos hp] at h
    obtain ⟨h1, h2⟩ := okBytes_out hp
    have h3 := Option.some.inj h
    refine (told_any A0 c0 l0 w hr0 hc0 h1 h2).mono ?_
    rintro e w' ⟨v3, v4, rfl, hR, hR2, hb⟩
    simp only [Prod.mk.injEq] at h3
    obtain ⟨rfl, rfl, rfl, rfl, rfl, rfl⟩ := h3
    exact ⟨v3, v4, rfl, Kd.R_mono hR (fun _ _ => trivial), hR2, hb⟩
  · rw [if_neg hp] at h; cases h
end Go.Proofs.Ytgdelfckhcgnhaa.Ext
