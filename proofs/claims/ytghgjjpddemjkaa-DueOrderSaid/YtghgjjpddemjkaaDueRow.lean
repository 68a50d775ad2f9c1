/- What the methods of the queue's row come to: how many there are, which one is the lesser, two that change places. No conditions beside those that each contract states. -/
import Derived.Test.YtghgjjpddemjkaaDueMem
namespace Go.Proofs.Ytghgjjpddemjkaa.Due
open Go.RowKit Go.Proofs.Ytghgjjpddemjkaa.Pa Go.Proofs.YtghgjjpddemjkaaW.PrintWords Go.Proofs.YtghgjjpddemjkaaW.PrintLast Go.Proofs.YtghgjjpddemjkaaW.PrintMore
set_option linter.unusedVariables false

theorem len_any (A : Option Addr) (n c : Nat) (w : World) : Calls Try.prog 41 #[.slice A n c] w fun e w' => e = .returned (.int .i64 n) ∧ w = w' := by
  go_enter Try.func41, Try.ntmps41
  go_wp2
  go_ret
  exact ⟨rfl, rfl⟩

theorem ret_bool {a b : Bool} (h : a = b) : Ending.returned (.bool a) = .returned (.bool b) := by rw [h]
set_option maxRecDepth 100000 in
set_option maxHeartbeats 4000000 in
theorem less_any (g cap : Nat) (h : List D) (i j : Nat) (w : World) (hA : Arr w g cap h) (hi : i < h.length) (hj : j < h.length) (hn : h.length ≤ 1099511627776) :
    Calls Try.prog 42 #[.slice (some ⟨g, 0, none⟩) h.length cap, .int .i64 i, .int .i64 j] w fun e w' => e = .returned (.bool (lt (at' h i) (at' h j))) ∧ Below w.heap.size w w' := by
  obtain ⟨a0, a1, _, _⟩ := hA.cells i hi
  obtain ⟨b0, b1, _, _⟩ := hA.cells j hj
  generalize at' h i = x at a0 a1 ⊢
  generalize at' h j = y at b0 b1 ⊢
  generalize h.length = n at hi hj hn ⊢
  have gl := hA.lt
  clear hA
  have i0 : (i : Int) < (n : Int) := by omega
  have j0 : (j : Int) < (n : Int) := by omega
  go_enter Try.func42, Try.ntmps42
  go_wp2
  go_region
  all_goals go_wp2
  all_goals go_ret
  all_goals refine ⟨ret_bool ?_, ?_⟩
  all_goals first | (simp only [lt]; simp [*]; done) | exact (((Below.refl _ _).alloc (Nat.le_refl _) _).alloc (by simp) _) | exact (((Below.refl _ _).alloc (Nat.le_refl _) _).alloc (by simp) _).drew

set_option maxRecDepth 100000 in
set_option maxHeartbeats 8000000 in
theorem swap_walk (g n cap : Nat) (x y : D) (i j : Nat) (w : World) (hi : i < n) (hj : j < n) (hn : n ≤ 1099511627776)
    (a0 : w.cell? ⟨g, i * 2, none⟩ = some (.int .i64 x.f0)) (a1 : w.cell? ⟨g, i * 2 + 1, none⟩ = some (.int .i64 x.f1)) (a2 : w.frozen? ⟨g, i * 2, none⟩ = false) (a3 : w.frozen? ⟨g, i * 2 + 1, none⟩ = false)
    (b0 : w.cell? ⟨g, j * 2, none⟩ = some (.int .i64 y.f0)) (b1 : w.cell? ⟨g, j * 2 + 1, none⟩ = some (.int .i64 y.f1)) (b2 : w.frozen? ⟨g, j * 2, none⟩ = false) (b3 : w.frozen? ⟨g, j * 2 + 1, none⟩ = false) (hne : ¬ i = j) :
    Calls Try.prog 43 #[.slice (some ⟨g, 0, none⟩) n cap, .int .i64 i, .int .i64 j] w fun e w' => e = .returned (.tuple #[]) ∧
      ∃ m, w' = ((((w.setCell ⟨g, i * 2, none⟩ (.int .i64 y.f0)).setCell ⟨g, i * 2 + 1, none⟩ (.int .i64 y.f1)).setCell ⟨g, j * 2, none⟩ (.int .i64 x.f0)).setCell ⟨g, j * 2 + 1, none⟩ (.int .i64 x.f1)).drewN m := by
  have i0 : (i : Int) < (n : Int) := by omega
  have j0 : (j : Int) < (n : Int) := by omega
  have n1 : ¬ i * 2 = j * 2 := by omega
  have n2 : ¬ i * 2 = j * 2 + 1 := by omega
  have n3 : ¬ i * 2 + 1 = j * 2 := by omega
  have n4 : ¬ i * 2 + 1 = j * 2 + 1 := by omega
  have m1 : ¬ j * 2 = i * 2 := by omega
  have m2 : ¬ j * 2 = i * 2 + 1 := by omega
  have m3 : ¬ j * 2 + 1 = i * 2 := by omega
  have m4 : ¬ j * 2 + 1 = i * 2 + 1 := by omega
  go_enter Try.func43, Try.ntmps43
  go_region
  all_goals (go_end0; exact ⟨rfl, 1, rfl⟩)
set_option maxRecDepth 100000 in
set_option maxHeartbeats 8000000 in
theorem swap_walk_same (g n cap : Nat) (x : D) (i : Nat) (w : World) (hi : i < n) (hn : n ≤ 1099511627776)
    (a0 : w.cell? ⟨g, i * 2, none⟩ = some (.int .i64 x.f0)) (a1 : w.cell? ⟨g, i * 2 + 1, none⟩ = some (.int .i64 x.f1)) (a2 : w.frozen? ⟨g, i * 2, none⟩ = false) (a3 : w.frozen? ⟨g, i * 2 + 1, none⟩ = false) :
    Calls Try.prog 43 #[.slice (some ⟨g, 0, none⟩) n cap, .int .i64 i, .int .i64 i] w fun e w' => e = .returned (.tuple #[]) ∧
      ∃ m, w' = ((((w.setCell ⟨g, i * 2, none⟩ (.int .i64 x.f0)).setCell ⟨g, i * 2 + 1, none⟩ (.int .i64 x.f1)).setCell ⟨g, i * 2, none⟩ (.int .i64 x.f0)).setCell ⟨g, i * 2 + 1, none⟩ (.int .i64 x.f1)).drewN m := by
  have i0 : (i : Int) < (n : Int) := by omega
  go_enter Try.func43, Try.ntmps43
  go_region
  all_goals (go_end0; exact ⟨rfl, 1, rfl⟩)
theorem swap_any (g cap : Nat) (h : List D) (i j : Nat) (w : World) (hA : Arr w g cap h) (hi : i < h.length) (hj : j < h.length) (hn : h.length ≤ 1099511627776) :
    Calls Try.prog 43 #[.slice (some ⟨g, 0, none⟩) h.length cap, .int .i64 i, .int .i64 j] w fun e w' => e = .returned (.tuple #[]) ∧ Arr w' g cap (swap h i j) ∧ Went (fun k => k = g) w w' := by
  obtain ⟨a0, a1, a2, a3⟩ := hA.cells i hi
  obtain ⟨b0, b1, b2, b3⟩ := hA.cells j hj
  have hW : ∀ m, Went (fun k => k = g) w (((((w.setCell ⟨g, i * 2, none⟩ (.int .i64 (at' h j).f0)).setCell ⟨g, i * 2 + 1, none⟩ (.int .i64 (at' h j).f1)).setCell ⟨g, j * 2, none⟩ (.int .i64 (at' h i).f0)).setCell ⟨g, j * 2 + 1, none⟩ (.int .i64 (at' h i).f1)).drewN m) :=
    fun m => by
      have s : ∀ (W : World) (o : Nat) (u : Value), Went (fun k => k = g) w W → Went (fun k => k = g) w (W.setCell ⟨g, o, none⟩ u) := fun W o u h => h.setCell (a := ⟨g, o, none⟩) (.inl rfl) u
      exact (s _ _ _ (s _ _ _ (s _ _ _ (s _ _ _ (Went.refl _ w))))).drewN m
  have hR : Arr ((((w.setCell ⟨g, i * 2, none⟩ (.int .i64 (at' h j).f0)).setCell ⟨g, i * 2 + 1, none⟩ (.int .i64 (at' h j).f1)).setCell ⟨g, j * 2, none⟩ (.int .i64 (at' h i).f0)).setCell ⟨g, j * 2 + 1, none⟩ (.int .i64 (at' h i).f1)) g cap (swap h i j) :=
    (hA.set i hi (at' h j)).set j (by simpa using hj) (at' h i)
  by_cases hne : i = j
  · subst hne
    refine (swap_walk_same g h.length cap (at' h i) i w hi hn a0 a1 a2 a3).mono ?_
    rintro e w' ⟨rfl, m, rfl⟩
    exact ⟨rfl, hR.drewN m, hW m⟩
  · refine (swap_walk g h.length cap (at' h i) (at' h j) i j w hi hj hn a0 a1 a2 a3 b0 b1 b2 b3 hne).mono ?_
    rintro e w' ⟨rfl, m, rfl⟩
    exact ⟨rfl, hR.drewN m, hW m⟩
end Go.Proofs.Ytghgjjpddemjkaa.Due
