/- First and Take of a queue, whether there is something or not: one contract each. No conditions beside those that each contract states. -/
import Derived.Test.YtghgjjpddemjkaaDueSit
import Derived.Test.YtghgjjpddemjkaaDueSorts
namespace Go.Proofs.Ytghgjjpddemjkaa.Due
open Go.RowKit Go.Proofs.Ytghgjjpddemjkaa.Pa Go.Proofs.YtghgjjpddemjkaaW.PrintWords Go.Proofs.YtghgjjpddemjkaaW.PrintLast Go.Proofs.YtghgjjpddemjkaaW.PrintMore
set_option linter.unusedVariables false

theorem rd_at (l : List D) (k : Nat) : rd_T30 l (k : Int) = at' l k := by simp [rd_T30, at']
theorem at_due {w : World} {A : Option Addr} {l : List D} (h : Kd.C k30 w A l.length l) (k : Nat) (hk : k < l.length) : ∃ ad, A = some ad ∧ w.cell? (ad.add (k * 2)) = some (.int .i64 (at' l k).f0) ∧ w.cell? ⟨(ad.add (k * 2)).block, (ad.add (k * 2)).off + 1, none⟩ = some (.int .i64 (at' l k).f1) := by
  obtain ⟨ad, e, h1, h2⟩ := at_T30 h (k : Int) (by omega) (by omega)
  rw [rd_at, Int.toNat_natCast] at h1 h2
  exact ⟨ad, e, h1, h2⟩
/-- The first; nothing's is nought. -/
def hd : List D → D
  | [] => ⟨0, 0⟩
  | m :: _ => m
def ne : List D → Bool
  | [] => false
  | _ :: _ => true
/-- Is there one whose time has come? -/
def due (now : Int) : List D → Bool
  | [] => false
  | m :: _ => decide (m.f0 ≤ now)
def gotV (now : Int) (s : List D) : D := if due now s = true then hd s else ⟨0, 0⟩
def gotL (now : Int) (s : List D) : List D := if due now s = true then s.tail else s
theorem gotL_length (now : Int) (s : List D) : (gotL now s).length ≤ s.length := by
  unfold gotL
  split
  · simp
  · exact Nat.le_refl _
theorem sit_first {w0 W : World} {T : List Thing} {q : Nat} {s : List D} (h : Sit w0 W (.que q s :: T)) :
    Calls Try.prog 12 #[.pointer (some ⟨q, 0, none⟩)] W fun e w' => e = .returned (.tuple #[.agg #[.int .i64 (hd s).f0, .int .i64 (hd s).f1], .bool (ne s)]) ∧ Sit w0 w' (.que q s :: T) := by
  cases s with
  | nil => exact sit_first_none h
  | cons m t => exact sit_first_some h
theorem sit_take {w0 W : World} {T : List Thing} {q : Nat} {s : List D} (now : Int) (h : Sit w0 W (.que q s :: T)) (hl : s.length ≤ 1099511627775) :
    Calls Try.prog 10 #[.pointer (some ⟨q, 0, none⟩), .int .i64 now] W fun e w' => e = .returned (.tuple #[.agg #[.int .i64 (gotV now s).f0, .int .i64 (gotV now s).f1], .bool (due now s)]) ∧ Sit w0 w' (.que q (gotL now s) :: T) := by
  unfold gotV gotL
  cases hd : due now s with
  | true =>
    cases s with
    | nil => cases hd
    | cons m t =>
      have hm : m.f0 ≤ now := of_decide_eq_true hd
      have h2 : t.length ≤ 1099511627775 := by simp at hl; omega
      rw [if_pos rfl, if_pos rfl]
      exact sit_take_some now h hm h2
  | false =>
    refine sit_take_none now h (fun m t e => ?_)
    subst e
    have hm : ¬ m.f0 ≤ now := of_decide_eq_false hd
    omega
end Go.Proofs.Ytghgjjpddemjkaa.Due
