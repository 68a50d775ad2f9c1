/- What the closures turn of a spot: the walks. No conditions beside those that each contract states. -/
import Derived.Test.YtkhghabenhhhaaaStockMay
import Derived.IntWalk
namespace Go.Proofs.Ytkhghabenhhhaaa.Stock
open Go.RowKit Go.Proofs.Ytkhghabenhhhaaa.Pa Go.Proofs.YtkhghabenhhhaaaW.PrintWords Go.Proofs.YtkhghabenhhhaaaW.PrintLast Go.Proofs.YtkhghabenhhhaaaW.PrintMore Go.Proofs.Ytkhghabenhhhaaa.Sl
set_option linter.unusedVariables false
set_option linter.unusedSimpArgs false

/-- A spot's block. -/
def SpotAt (w : World) (b : Nat) (x : Spot) : Prop := w.heap[b]? = some (.cells #[.int .i64 x.f0, .int .i64 x.f1, .int .i64 x.f2, .int .i64 x.f3] 37 (0, 0))
/-- What a closure leaves. -/
def Turned (w : World) (b : Nat) (r : Int) (x : Spot) (e : Ending) (w' : World) : Prop := e = .returned (.int .i64 r) ∧ SpotAt w' b x ∧ Went (fun k => k = b) w w'
def inI (n : Int) : Prop := -9223372036854775808 ≤ n ∧ n < 9223372036854775808
/-- A spot whose numbers are such. -/
def sound (x : Spot) : Prop := 0 ≤ x.f3 ∧ x.f3 ≤ x.f2 ∧ x.f2 < 9223372036854775808
theorem SpotAt.set {w : World} {b : Nat} {x : Spot} (h : SpotAt w b x) (j : Nat) (v : Int) (y : Spot) (hy : (#[Value.int .i64 x.f0, .int .i64 x.f1, .int .i64 x.f2, .int .i64 x.f3].setIfInBounds j (.int .i64 v)) = #[.int .i64 y.f0, .int .i64 y.f1, .int .i64 y.f2, .int .i64 y.f3]) : SpotAt (w.setCell ⟨b, j, none⟩ (.int .i64 v)) b y := by
  unfold SpotAt at *
  rw [blk_set h j (.int .i64 v), hy]
theorem add_any (a b : Int) (w : World) (ha : a < 9223372036854775808) (hb : b < 9223372036854775808) : Calls Try.prog 42 #[.int .i64 a, .int .i64 b] w fun e w' => e = .returned (.tuple #[.int .i64 (addP a b).1, .int .i64 (addP a b).2]) ∧ Drawn0 w w' :=
  qty_Add.calls 1 a b _ _ w (add_f (by decide) ha hb)
theorem sub_any (a b : Int) (w : World) (ha : a < 9223372036854775808) (hb : b < 9223372036854775808) : Calls Try.prog 37 #[.int .i64 a, .int .i64 b] w fun e w' => e = .returned (.tuple #[.int .i64 (subP a b).1, .int .i64 (subP a b).2]) ∧ Drawn0 w w' :=
  qty_Sub.calls 1 a b _ _ w (sub_f (by decide) ha hb)
theorem free_any (x : Spot) (w : World) (h : sound x) : Calls Try.prog 28 #[.agg #[.int .i64 x.f0, .int .i64 x.f1, .int .i64 x.f2, .int .i64 x.f3]] w fun e w' => e = .returned (.int .i64 (x.f2 - x.f3)) ∧ Below w.heap.size w w' :=
  stock_free.calls _ _ _ _ _ w (by unfold stock_free.f; rw [w64 (by have := h.1; have := h.2; omega) (by have := h.1; have := h.2; omega)])
def takeF (q : Int) (x : Spot) : Int × Spot := ((addP x.f2 q).2, { x with f2 := (addP x.f2 q).1 })
def lessF (q : Int) (x : Spot) : Int × Spot := if x.f2 - x.f3 < q then (31, x) else (0, { x with f2 := x.f2 - q })
def holdF (q : Int) (x : Spot) : Int × Spot := if x.f2 - x.f3 < q then (31, x) else (0, { x with f3 := x.f3 + q })
def freeF (q : Int) (x : Spot) : Int × Spot := ((subP x.f3 q).2, { x with f3 := (subP x.f3 q).1 })
def shipF (q : Int) (x : Spot) : Int × Spot := ((subP x.f3 q).2, { x with f3 := (subP x.f3 q).1, f2 := x.f2 - q })
set_option maxRecDepth 100000 in
set_option maxHeartbeats 8000000 in
theorem take_clo (b pb : Nat) (x : Spot) (q : Int) (w : World) (hb : SpotAt w b x) (hp : w.cell? ⟨pb, 2, none⟩ = some (.int .i64 q)) (hx : sound x) (hq : inI q) :
    Calls Try.prog 41 #[.pointer (some ⟨b, 0, none⟩), .pointer (some ⟨pb, 0, none⟩)] w (Turned w b (takeF q x).1 (takeF q x).2) := by
  obtain ⟨c0, c1, c2, c3, g0, g1, g2, g3⟩ := cells_of4 hb
  have HX := Aside0.mk hb
  have pa := fun m => add_any x.f2 q (w.drewN m) hx.2.2 hq.2
  unfold takeF
  generalize addP x.f2 q = r at pa ⊢
  clear hb hx hq
  go_enter Try.func41, Try.ntmps41
  go_wp2
  go_quiet ((go_at_call 42; refine (pa _).mono ?_; rintro e w' ⟨rfl, ⟨nd, rfl⟩⟩; exact ⟨rfl, _, World.drewN_drewN _ _ _⟩))
  go_wp2
  go_ret
  exact ⟨rfl, SpotAt.set (w := w.drewN _) HX.out 2 r.1 _ rfl, Went.setq (S := fun k => k = b) ((Went.refl _ w).drewN _) (.inl rfl) _⟩
set_option maxRecDepth 100000 in
set_option maxHeartbeats 8000000 in
theorem free_clo (b pb : Nat) (x : Spot) (q : Int) (w : World) (hb : SpotAt w b x) (hp : w.cell? ⟨pb, 2, none⟩ = some (.int .i64 q)) (hx : sound x) (hq : inI q) :
    Calls Try.prog 36 #[.pointer (some ⟨b, 0, none⟩), .pointer (some ⟨pb, 0, none⟩)] w (Turned w b (freeF q x).1 (freeF q x).2) := by
  obtain ⟨c0, c1, c2, c3, g0, g1, g2, g3⟩ := cells_of4 hb
  have HX := Aside0.mk hb
  have pa := fun m => sub_any x.f3 q (w.drewN m) (Int.lt_of_le_of_lt hx.2.1 hx.2.2) hq.2
  unfold freeF
  generalize subP x.f3 q = r at pa ⊢
  clear hb hx hq
  go_enter Try.func36, Try.ntmps36
  go_wp2
  go_quiet ((go_at_call 37; refine (pa _).mono ?_; rintro e w' ⟨rfl, ⟨nd, rfl⟩⟩; exact ⟨rfl, _, World.drewN_drewN _ _ _⟩))
  go_wp2
  go_ret
  exact ⟨rfl, SpotAt.set (w := w.drewN _) HX.out 3 r.1 _ rfl, Went.setq (S := fun k => k = b) ((Went.refl _ w).drewN _) (.inl rfl) _⟩
set_option maxRecDepth 100000 in
set_option maxHeartbeats 8000000 in
theorem ship_clo (b pb : Nat) (x : Spot) (q : Int) (w : World) (hb : SpotAt w b x) (hp : w.cell? ⟨pb, 2, none⟩ = some (.int .i64 q)) (hx : sound x) (hq : 0 < q ∧ q < 9223372036854775808) (hne : pb ≠ b) :
    Calls Try.prog 38 #[.pointer (some ⟨b, 0, none⟩), .pointer (some ⟨pb, 0, none⟩)] w (Turned w b (shipF q x).1 (shipF q x).2) := by
  obtain ⟨c0, c1, c2, c3, g0, g1, g2, g3⟩ := cells_of4 hb
  have HX := Aside0.mk hb
  have pa := fun m => sub_any x.f3 q (w.drewN m) (Int.lt_of_le_of_lt hx.2.1 hx.2.2) hq.2
  have b0 : 0 ≤ x.f2 := Int.le_trans hx.1 hx.2.1
  have b1 := hx.2.2
  have b2 := hq.1
  have b3 := hq.2
  have hneb : b ≠ pb := fun e => hne e.symm
  unfold shipF
  generalize subP x.f3 q = r at pa ⊢
  clear hb hx hq
  go_enter Try.func38, Try.ntmps38
  go_wp2
  go_quiet ((go_at_call 37; refine (pa _).mono ?_; rintro e w' ⟨rfl, ⟨nd, rfl⟩⟩; exact ⟨rfl, _, World.drewN_drewN _ _ _⟩))
  go_wp2
  have i1 : IntKind.i64.wrap (x.f2 - q) = x.f2 - q := IntWalk.i64_in _ (by omega)
  go_region
  all_goals
    go_wp2
    go_ret
    exact ⟨rfl, SpotAt.set (SpotAt.set (w := (w.drewN _).drew) HX.out 3 r.1 ⟨x.f0, x.f1, x.f2, r.1⟩ rfl) 2 (x.f2 - q) _ rfl, Went.setq (S := fun k => k = b) (Went.setq (S := fun k => k = b) ((Went.refl _ w).drewN _).drew (.inl rfl) _) (.inl rfl) _⟩
set_option maxRecDepth 100000 in
set_option maxHeartbeats 8000000 in
theorem less_clo (b pb : Nat) (x : Spot) (q : Int) (w : World) (hb : SpotAt w b x) (hp : w.cell? ⟨pb, 0, none⟩ = some (.int .i64 q)) (hx : sound x) (hq : 0 < q ∧ q < 9223372036854775808) :
    Calls Try.prog 51 #[.pointer (some ⟨b, 0, none⟩), .pointer (some ⟨pb, 0, none⟩)] w (Turned w b (lessF q x).1 (lessF q x).2) := by
  obtain ⟨c0, c1, c2, c3, g0, g1, g2, g3⟩ := cells_of4 hb
  have HX := Aside0.mk (And.intro hb hx)
  have b0 : 0 ≤ x.f2 := Int.le_trans hx.1 hx.2.1
  have b1 := hx.2.2
  have b2 := hq.1
  have b3 := hq.2
  have hbl : b < w.heap.size := (Array.getElem?_eq_some_iff.1 hb).1
  have hpl : pb < w.heap.size := World.block_lt_of_cell? _ _ hp
  unfold lessF
  obtain ⟨fr, hfr⟩ : ∃ fr, fr = x.f2 - x.f3 := ⟨_, rfl⟩
  rw [← hfr]
  have HFR := Aside0.mk hfr
  clear hb hx hq hfr
  by_cases hlt : fr < q
  · rw [if_pos hlt]
    go_enter Try.func51, Try.ntmps51
    go_wp2
    go_region_law ((go_simp; go_at_call 28; refine (free_any x _ HX.out.2).mono ?_; rw [← HFR.out]; rintro e w1 ⟨rfl, hb⟩; have d1 := pw_cell_below hb hp; have HB := Aside0.mk (below_then (below_drew (Below.refl w.heap.size w)) (Nat.le_refl _) hb); clear hb))
    all_goals
      go_wp2
      go_ret
      exact ⟨rfl, (HB.out.block b hbl).trans HX.out.1, Went.of_below HB.out _⟩
  · rw [if_neg hlt]
    go_enter Try.func51, Try.ntmps51
    go_wp2
    go_region_law ((go_simp; go_at_call 28; refine (free_any x _ HX.out.2).mono ?_; rw [← HFR.out]; rintro e w1 ⟨rfl, hb⟩; have d1 := pw_cell_below hb hp; have HB := Aside0.mk (below_then (below_drew (Below.refl w.heap.size w)) (Nat.le_refl _) hb); clear hb))
    all_goals
      have k1 : SpotAt w1 b x := (HB.out.block b hbl).trans HX.out.1
      have HK := Aside0.mk k1
      obtain ⟨e0, e1, e2, e3, j0, j1, j2, j3⟩ := cells_of4 k1
      clear k1
      go_wp2
      have i1 : IntKind.i64.wrap (x.f2 - q) = x.f2 - q := IntWalk.i64_in _ (by omega)
      go_region
      go_wp2
      go_ret
      exact ⟨rfl, SpotAt.set (w := w1.drew) HK.out 2 (x.f2 - q) _ rfl, Went.setq (S := fun k => k = b) (Went.of_below HB.out (fun k => k = b)).drew (.inl rfl) _⟩
set_option maxRecDepth 100000 in
set_option maxHeartbeats 8000000 in
theorem hold_clo (b pb : Nat) (x : Spot) (q : Int) (w : World) (hb : SpotAt w b x) (hp : w.cell? ⟨pb, 2, none⟩ = some (.int .i64 q)) (hx : sound x) (hq : 0 < q ∧ q < 9223372036854775808) :
    Calls Try.prog 27 #[.pointer (some ⟨b, 0, none⟩), .pointer (some ⟨pb, 0, none⟩)] w (Turned w b (holdF q x).1 (holdF q x).2) := by
  obtain ⟨c0, c1, c2, c3, g0, g1, g2, g3⟩ := cells_of4 hb
  have HX := Aside0.mk (And.intro hb hx)
  have b0 : 0 ≤ x.f2 := Int.le_trans hx.1 hx.2.1
  have b1 := hx.2.2
  have b2 := hq.1
  have b3 := hq.2
  have hbl : b < w.heap.size := (Array.getElem?_eq_some_iff.1 hb).1
  have hpl : pb < w.heap.size := World.block_lt_of_cell? _ _ hp
  unfold holdF
  obtain ⟨fr, hfr⟩ : ∃ fr, fr = x.f2 - x.f3 := ⟨_, rfl⟩
  rw [← hfr]
  have HFR := Aside0.mk hfr
  clear hb hx hq hfr
  by_cases hlt : fr < q
  · rw [if_pos hlt]
    go_enter Try.func27, Try.ntmps27
    go_wp2
    go_region_law ((go_simp; go_at_call 28; refine (free_any x _ HX.out.2).mono ?_; rw [← HFR.out]; rintro e w1 ⟨rfl, hb⟩; have d1 := pw_cell_below hb hp; have HB := Aside0.mk (below_then (below_drew (Below.refl w.heap.size w)) (Nat.le_refl _) hb); clear hb))
    all_goals
      go_wp2
      go_ret
      exact ⟨rfl, (HB.out.block b hbl).trans HX.out.1, Went.of_below HB.out _⟩
  · rw [if_neg hlt]
    go_enter Try.func27, Try.ntmps27
    go_wp2
    go_region_law ((go_simp; go_at_call 28; refine (free_any x _ HX.out.2).mono ?_; rw [← HFR.out]; rintro e w1 ⟨rfl, hb⟩; have d1 := pw_cell_below hb hp; have HB := Aside0.mk (below_then (below_drew (Below.refl w.heap.size w)) (Nat.le_refl _) hb); clear hb))
    all_goals
      have k1 : SpotAt w1 b x := (HB.out.block b hbl).trans HX.out.1
      have HK := Aside0.mk k1
      obtain ⟨e0, e1, e2, e3, j0, j1, j2, j3⟩ := cells_of4 k1
      clear k1
      go_wp2
      have hfq : x.f3 + q ≤ x.f2 := by have := HFR.out; omega
      have b4 := HX.out.2.1
      have i1 : IntKind.i64.wrap (x.f3 + q) = x.f3 + q := IntWalk.i64_in _ (by omega)
      go_region
      go_wp2
      go_ret
      exact ⟨rfl, SpotAt.set (w := w1.drew) HK.out 3 (x.f3 + q) _ rfl, Went.setq (S := fun k => k = b) (Went.of_below HB.out (fun k => k = b)).drew (.inl rfl) _⟩
end Go.Proofs.Ytkhghabenhhhaaa.Stock
