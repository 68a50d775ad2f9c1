/- What the calls of stocks come to in the printed form, as plain laws. -/
import Derived.Test.YtkhghabenhhhaaaPu2
import Derived.Test.YtkhghabenhhhaaaStockLaw
import Derived.Test.YtkhghabenhhhaaaStockRefB
namespace Go.Proofs.Ytkhghabenhhhaaa.Pure
open Go Go.RowKit Go.Proofs.Ytkhghabenhhhaaa.Pa Go.Proofs.Ytkhghabenhhhaaa.Pu Go.Proofs.Ytkhghabenhhhaaa.Ext Go.Proofs.Ytkhghabenhhhaaa.Stock Go.Proofs.YtkhghabenhhhaaaW.PrintWords Go.Proofs.YtkhghabenhhhaaaW.PrintLast
set_option linter.unusedVariables false

theorem wfb {a : Int} (h : (Lit.int .i64 a).wf = true) : inI a := by
  simp only [Lit.wf, Bool.and_eq_true, decide_eq_true_eq] at h
  have h1 : IntKind.i64.min = -9223372036854775808 := by decide
  have h2 : IntKind.i64.max = 9223372036854775807 := by decide
  rw [h1, h2] at h
  exact ⟨h.1, by omega⟩
theorem lim_of {l : List S37} (h : ∀ y ∈ l, qT37 y) (hn : l.length ≤ 99999999999) : Lim l := ⟨hn, fun s hs => (wfb (h s hs).2.2.1).2⟩
theorem limL_of {l : List S32} (h : ∀ y ∈ l, qT32 y) : LimL l := fun x hx => wfb (h x hx).2.2
theorem same_l {l : List S37} (hl : l.length ≤ 999999999999) (d : Nat) : ∀ (k i : Nat), i + d = l.length → d < k → quartermasterref17_Same.l0 k l l (i : Int) = some true := by
  induction d with
  | zero =>
    intro k i h hk
    obtain ⟨m, rfl⟩ : ∃ m, k = m + 1 := ⟨k - 1, by omega⟩
    unfold quartermasterref17_Same.l0
    rw [if_neg (by omega)]
  | succ d ih =>
    intro k i h hk
    obtain ⟨m, rfl⟩ : ∃ m, k = m + 1 := ⟨k - 1, by omega⟩
    unfold quartermasterref17_Same.l0
    rw [if_pos (by omega), if_pos (by omega), if_pos (by omega)]
    have : wrap64 ((i : Int) + 1) = ((i + 1 : Nat) : Int) := wi (by omega)
    rw [this, if_neg (by simp)]
    exact ih m (i + 1) (by omega) (by omega)
theorem same_f {k : Nat} {l : List S37} (hl : l.length ≤ 999999999999) (hk : l.length < k) : quartermasterref17_Same.f k l l = some true := by
  unfold quartermasterref17_Same.f
  rw [if_pos rfl]
  exact same_l hl l.length k 0 (by omega) hk
theorem take_f {l : List S37} {a b q : Int} (hl : Lim l) (hq : inI q) : stock_Take.f l a b q = some (turnedP (takeF q) l a b q) := if_pos ⟨hl, hq⟩
theorem free_f {l : List S37} {a b q : Int} (hl : Lim l) (hq : inI q) : stock_Free.f l a b q = some (turnedP (freeF q) l a b q) := if_pos ⟨hl, hq⟩
theorem ship_f {l : List S37} {a b q : Int} (hl : Lim l) (hq : inI q) : stock_Ship.f l a b q = some (turnedP (shipF q) l a b q) := if_pos ⟨hl, hq⟩
theorem adjust_f {l : List S37} {a b q : Int} (hl : Lim l) (hq : inI q) : stock_Adjust.f l a b q = some (adjustP l a b q) := if_pos ⟨hl, hq⟩
theorem move_f {l : List S37} {a b q t : Int} (hl : Lim l) (hq : inI q) : stock_Move.f l a b q t = some (moveP l a b q t) := if_pos ⟨hl, hq⟩
theorem hold_f {l : List S37} {m : List S32} (hl : Lim l) (hq : LimL m) : stock_Hold.f l m = some (holdP l m) := if_pos ⟨hl, hq⟩
theorem at_f {l : List S37} {a b : Int} (hl : Lim l) (ha : inI a) (hb : inI b) : stock_At.f l a b = some ((atP l a b).f0, (atP l a b).f1, (atP l a b).f2, (atP l a b).f3) := if_pos ⟨hl, ha, hb⟩
set_option maxRecDepth 100000 in
theorem awake_f : quartermasterlaw17_awake.f = some true := by decide +kernel
def doesP (l : List S37) (kind tw a b q : Int) (m : List S32) : List S37 × Int :=
  if kind = 0 then turnedP (takeF q) l a b q else if kind = 1 then adjustP l a b q else if kind = 2 then moveP l a b q tw else if kind = 3 then turnedP (freeF q) l a b q else if kind = 4 then turnedP (shipF q) l a b q else holdP l m
theorem does_f {l : List S37} {kind tw a b q : Int} {m : List S32} (hl : Lim l) (hq : inI q) (hm : LimL m) : quartermasterlaw17_Does.f l kind tw a b q m = some (doesP l kind tw a b q m) := by
  unfold quartermasterlaw17_Does.f doesP
  rw [take_f hl hq, adjust_f hl hq, move_f hl hq, free_f hl hq, ship_f hl hq, hold_f hl hm]
  simp only [Option.bind_some]
  split
  · rfl
  · split
    · rfl
    · split
      · rfl
      · split
        · rfl
        · split <;> rfl
theorem does_good {l : List S37} (hl : Lim l) (kind tw a b q : Int) (m : List S32) : Stock.Good (doesP l kind tw a b q m) := by
  unfold doesP
  split
  · exact take_good hl _ _ _
  · split
    · exact adjust_good hl _ _ _
    · split
      · exact move_good hl _ _ _ _
      · split
        · exact free_good hl _ _ _
        · split
          · exact ship_good hl _ _ _
          · exact holdP_good hl _
theorem rtake_f {l : List S37} {a b q : Int} (hl : Lim l) (hq : inI q) : quartermasterref17_Take.f l a b q = some (turnedP (takeF q) l a b q) := if_pos ⟨hl, hq⟩
theorem rless_f {l : List S37} {a b q : Int} (g : Bool) (hl : Lim l) (hq : inI q) : quartermasterref17_Less.f l a b q g = some (lessP l a b q g) := if_pos ⟨hl, hq⟩
theorem radjust_f {l : List S37} {a b q : Int} (hl : Lim l) (hq : inI q) : quartermasterref17_Adjust.f l a b q = some (adjustP l a b q) := if_pos ⟨hl, hq⟩
theorem rmove_f {l : List S37} {a b q t : Int} (hl : Lim l) (hq : inI q) : quartermasterref17_Move.f l a b q t = some (moveP l a b q t) := if_pos ⟨hl, hq⟩
theorem rhold_f {l : List S37} {m : List S32} (hl : Lim l) (hq : LimL m) : quartermasterref17_Hold.f l m = some (holdP l m) := if_pos ⟨hl, hq⟩
theorem did_f {l : List S37} {kind tw a b q : Int} {m : List S32} (hl : Lim l) (hq : inI q) (hm : LimL m) : quartermasterlaw17_did.f l kind tw a b q m = some (doesP l kind tw a b q m) := by
  unfold quartermasterlaw17_did.f doesP
  rw [rtake_f hl hq, radjust_f hl hq, rmove_f hl hq, rless_f false hl hq, rless_f true hl hq, rhold_f hl hm]
  simp only [Option.bind_some]
  split
  · rfl
  · split
    · rfl
    · split
      · rfl
      · split
        · rfl
        · split <;> rfl
end Go.Proofs.Ytkhghabenhhhaaa.Pure
