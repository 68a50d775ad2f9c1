/- What stock.At, Take, Adjust, Move, Free, Ship and Hold come to, in the form in which the print tells its contracts. -/
import Derived.Test.YtkhghabenhhhaaaStockAt
namespace Go.Proofs.Ytkhghabenhhhaaa.Ext
set_option linter.unusedVariables false
open Go Go.RowKit Go.Proofs.Ytkhghabenhhhaaa.Pa Go.Proofs.Ytkhghabenhhhaaa.Stock Go.Proofs.YtkhghabenhhhaaaW.PrintWords Go.Proofs.YtkhghabenhhhaaaW.PrintLast Go.Proofs.YtkhghabenhhhaaaW.PrintMore
instance (n : Int) : Decidable (inI n) := by unfold inI; infer_instance

def stock_Take.f (l0 : List S37) (a1_0 a1_1 a1_2 : Int) : Option (List S37 × Int) := if Lim l0 ∧ inI a1_2 then some (turnedP (takeF a1_2) l0 a1_0 a1_1 a1_2) else none
theorem stock_Take.calls (A0 : Option Addr) (c0 : Nat) (l0 : List (S37)) (a1_0 : Int) (a1_1 : Int) (a1_2 : Int) (r1 : List S37) (r2 : Int) (w : World) (hr0 : Kd.C k37 w A0 l0.length l0) (hc0 : l0.length ≤ c0) (h : stock_Take.f l0 a1_0 a1_1 a1_2 = some (r1, r2)) :
    Calls Try.prog 20 #[.slice A0 l0.length c0, .agg #[.int .i64 a1_0, .int .i64 a1_1, .int .i64 a1_2]] w fun e w' => ∃ v0_ : Value, e = .returned (.tuple #[v0_, .int .i64 r2]) ∧ Kd.R k37 37 w' w.heap.size (fun _ => True) v0_ r1 ∧ Below w.heap.size w w' := by
  unfold stock_Take.f at h
  by_cases hp : Lim l0 ∧ inI a1_2
  · rw [if_pos hp] at h
    have p := take_any A0 c0 l0 a1_0 a1_1 a1_2 w hr0 hc0 hp.1 hp.2
    rw [Option.some.inj h] at p
    exact p
  · rw [if_neg hp] at h; cases h

def stock_Free.f (l0 : List S37) (a1_0 a1_1 a1_2 : Int) : Option (List S37 × Int) := if Lim l0 ∧ inI a1_2 then some (turnedP (freeF a1_2) l0 a1_0 a1_1 a1_2) else none
theorem stock_Free.calls (A0 : Option Addr) (c0 : Nat) (l0 : List (S37)) (a1_0 : Int) (a1_1 : Int) (a1_2 : Int) (r1 : List S37) (r2 : Int) (w : World) (hr0 : Kd.C k37 w A0 l0.length l0) (hc0 : l0.length ≤ c0) (h : stock_Free.f l0 a1_0 a1_1 a1_2 = some (r1, r2)) :
    Calls Try.prog 17 #[.slice A0 l0.length c0, .agg #[.int .i64 a1_0, .int .i64 a1_1, .int .i64 a1_2]] w fun e w' => ∃ v0_ : Value, e = .returned (.tuple #[v0_, .int .i64 r2]) ∧ Kd.R k37 37 w' w.heap.size (fun _ => True) v0_ r1 ∧ Below w.heap.size w w' := by
  unfold stock_Free.f at h
  by_cases hp : Lim l0 ∧ inI a1_2
  · rw [if_pos hp] at h
    have p := freeL_any A0 c0 l0 a1_0 a1_1 a1_2 w hr0 hc0 hp.1 hp.2
    rw [Option.some.inj h] at p
    exact p
  · rw [if_neg hp] at h; cases h

def stock_Ship.f (l0 : List S37) (a1_0 a1_1 a1_2 : Int) : Option (List S37 × Int) := if Lim l0 ∧ inI a1_2 then some (turnedP (shipF a1_2) l0 a1_0 a1_1 a1_2) else none
theorem stock_Ship.calls (A0 : Option Addr) (c0 : Nat) (l0 : List (S37)) (a1_0 : Int) (a1_1 : Int) (a1_2 : Int) (r1 : List S37) (r2 : Int) (w : World) (hr0 : Kd.C k37 w A0 l0.length l0) (hc0 : l0.length ≤ c0) (h : stock_Ship.f l0 a1_0 a1_1 a1_2 = some (r1, r2)) :
    Calls Try.prog 18 #[.slice A0 l0.length c0, .agg #[.int .i64 a1_0, .int .i64 a1_1, .int .i64 a1_2]] w fun e w' => ∃ v0_ : Value, e = .returned (.tuple #[v0_, .int .i64 r2]) ∧ Kd.R k37 37 w' w.heap.size (fun _ => True) v0_ r1 ∧ Below w.heap.size w w' := by
  unfold stock_Ship.f at h
  by_cases hp : Lim l0 ∧ inI a1_2
  · rw [if_pos hp] at h
    have p := ship_any A0 c0 l0 a1_0 a1_1 a1_2 w hr0 hc0 hp.1 hp.2
    rw [Option.some.inj h] at p
    exact p
  · rw [if_neg hp] at h; cases h

def stock_Adjust.f (l0 : List S37) (a1_0 a1_1 a1_2 : Int) : Option (List S37 × Int) := if Lim l0 ∧ inI a1_2 then some (adjustP l0 a1_0 a1_1 a1_2) else none
theorem stock_Adjust.calls (A0 : Option Addr) (c0 : Nat) (l0 : List (S37)) (a1_0 : Int) (a1_1 : Int) (a1_2 : Int) (r1 : List S37) (r2 : Int) (w : World) (hr0 : Kd.C k37 w A0 l0.length l0) (hc0 : l0.length ≤ c0) (h : stock_Adjust.f l0 a1_0 a1_1 a1_2 = some (r1, r2)) :
    Calls Try.prog 19 #[.slice A0 l0.length c0, .agg #[.int .i64 a1_0, .int .i64 a1_1, .int .i64 a1_2]] w fun e w' => ∃ v0_ : Value, e = .returned (.tuple #[v0_, .int .i64 r2]) ∧ Kd.R k37 37 w' w.heap.size (fun _ => True) v0_ r1 ∧ Below w.heap.size w w' := by
  unfold stock_Adjust.f at h
  by_cases hp : Lim l0 ∧ inI a1_2
  · rw [if_pos hp] at h
    have p := adjust_any A0 c0 l0 a1_0 a1_1 a1_2 w hr0 hc0 hp.1 hp.2
    rw [Option.some.inj h] at p
    exact p
  · rw [if_neg hp] at h; cases h

def stock_Move.f (l0 : List S37) (a1_0 a1_1 a1_2 : Int) (a2 : Int) : Option (List S37 × Int) := if Lim l0 ∧ inI a1_2 then some (moveP l0 a1_0 a1_1 a1_2 a2) else none
theorem stock_Move.calls (A0 : Option Addr) (c0 : Nat) (l0 : List (S37)) (a1_0 : Int) (a1_1 : Int) (a1_2 : Int) (a2 : Int) (r1 : List S37) (r2 : Int) (w : World) (hr0 : Kd.C k37 w A0 l0.length l0) (hc0 : l0.length ≤ c0) (h : stock_Move.f l0 a1_0 a1_1 a1_2 a2 = some (r1, r2)) :
    Calls Try.prog 21 #[.slice A0 l0.length c0, .agg #[.int .i64 a1_0, .int .i64 a1_1, .int .i64 a1_2], .int .i64 a2] w fun e w' => ∃ v0_ : Value, e = .returned (.tuple #[v0_, .int .i64 r2]) ∧ Kd.R k37 37 w' w.heap.size (fun _ => True) v0_ r1 ∧ Below w.heap.size w w' := by
  unfold stock_Move.f at h
  by_cases hp : Lim l0 ∧ inI a1_2
  · rw [if_pos hp] at h
    have p := move_any A0 c0 l0 a1_0 a1_1 a1_2 a2 w hr0 hc0 hp.1 hp.2
    rw [Option.some.inj h] at p
    exact p
  · rw [if_neg hp] at h; cases h

def stock_Hold.f (l0 : List S37) (l1 : List S32) : Option (List S37 × Int) := if Lim l0 ∧ LimL l1 then some (holdP l0 l1) else none
theorem stock_Hold.calls (A0 : Option Addr) (c0 : Nat) (l0 : List (S37)) (A1 : Option Addr) (c1 : Nat) (l1 : List (S32)) (r1 : List S37) (r2 : Int) (w : World) (hr0 : Kd.C k37 w A0 l0.length l0) (hc0 : l0.length ≤ c0) (hr1 : Kd.C k32 w A1 l1.length l1) (hc1 : l1.length ≤ c1) (h : stock_Hold.f l0 l1 = some (r1, r2)) :
    Calls Try.prog 11 #[.slice A0 l0.length c0, .slice A1 l1.length c1] w fun e w' => ∃ v0_ : Value, e = .returned (.tuple #[v0_, .int .i64 r2]) ∧ Kd.R k37 37 w' w.heap.size (fun _ => True) v0_ r1 ∧ Below w.heap.size w w' := by
  unfold stock_Hold.f at h
  by_cases hp : Lim l0 ∧ LimL l1
  · rw [if_pos hp] at h
    have p := hold_any A0 c0 l0 A1 c1 l1 w hr0 hc0 hr1 hc1 hp.1 hp.2
    rw [Option.some.inj h] at p
    exact p
  · rw [if_neg hp] at h; cases h
def stock_At.f (l0 : List S37) (a1 a2 : Int) : Option (Int × Int × Int × Int) := if Lim l0 ∧ inI a1 ∧ inI a2 then some ((atP l0 a1 a2).f0, (atP l0 a1 a2).f1, (atP l0 a1 a2).f2, (atP l0 a1 a2).f3) else none
theorem stock_At.calls (A0 : Option Addr) (c0 : Nat) (l0 : List (S37)) (a1 : Int) (a2 : Int) (r1 : Int) (r2 : Int) (r3 : Int) (r4 : Int) (w : World) (hr0 : Kd.C k37 w A0 l0.length l0) (hc0 : l0.length ≤ c0) (h : stock_At.f l0 a1 a2 = some (r1, r2, r3, r4)) :
    Calls Try.prog 16 #[.slice A0 l0.length c0, .int .i64 a1, .int .i64 a2] w fun e w' => e = .returned (.agg #[.int .i64 r1, .int .i64 r2, .int .i64 r3, .int .i64 r4]) ∧ Below w.heap.size w w' := by
  unfold stock_At.f at h
  by_cases hp : Lim l0 ∧ inI a1 ∧ inI a2
  · rw [if_pos hp] at h
    have p := At_any A0 c0 l0 a1 a2 w hr0 hc0 hp.1.1 hp.2.1 hp.2.2
    have h2 := Option.some.inj h
    simp only [Prod.mk.injEq] at h2
    obtain ⟨h3, h4, h5, h6⟩ := h2
    unfold AtPost at p
    rw [h3, h4, h5, h6] at p
    exact p
  · rw [if_neg hp] at h; cases h
end Go.Proofs.Ytkhghabenhhhaaa.Ext
