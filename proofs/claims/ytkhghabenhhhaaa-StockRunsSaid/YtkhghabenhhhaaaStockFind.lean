/- slices.BinarySearchFunc over spots by their order; where a spot stands, or would. No conditions beside those that each contract states. -/
import Derived.Test.YtkhghabenhhhaaaPa4
import Derived.Test.YtkhghabenhhhaaaSlInsert
import Derived.Deep.RegionWith
import Derived.Deep.RegionHeld3
import Derived.Deep.QuietTactic
import Derived.BigQuiet
import Derived.Outline
namespace Go.Proofs.Ytkhghabenhhhaaa.Stock
open Go.RowKit Go.Proofs.Ytkhghabenhhhaaa.Pa Go.Proofs.YtkhghabenhhhaaaW.PrintWords Go.Proofs.YtkhghabenhhhaaaW.PrintLast Go.Proofs.YtkhghabenhhhaaaW.PrintMore Go.Proofs.Ytkhghabenhhhaaa.Sl
set_option linter.unusedVariables false
set_option linter.unusedSimpArgs false

abbrev Spot := S37
/-- How a spot stands to a pair. -/
def ordc (x : Spot) (sku loc : Int) : Int := if x.f0 = sku then wrap64 (x.f1 - loc) else wrap64 (x.f0 - sku)
theorem order_any (x : Spot) (sku loc a b : Int) (w : World) :
    Calls Try.prog 23 #[.agg #[.int .i64 x.f0, .int .i64 x.f1, .int .i64 x.f2, .int .i64 x.f3], .agg #[.int .i64 sku, .int .i64 loc, .int .i64 a, .int .i64 b]] w fun e w' => e = .returned (.int .i64 (ordc x sku loc)) ∧ Below w.heap.size w w' :=
  stock_order.calls _ _ _ _ _ _ _ _ _ w (by unfold stock_order.f ordc; split <;> rfl)
theorem below_next {w W w1 : World} (hb : Below W.heap.size W w1) (h : Aside0 (Below w.heap.size w W)) : Aside0 (Below w.heap.size w w1) := ⟨below_then h.out h.out.size hb⟩
/-- What a search comes to. -/
structure Found (l : List Spot) (sku loc : Int) (i : Nat) : Prop where
  le : i ≤ l.length
  lo : i = 0 ∨ ordc (rd_T37 l ((i : Int) - 1)) sku loc < 0
  hi : i = l.length ∨ 0 ≤ ordc (rd_T37 l i) sku loc
def foundB (l : List Spot) (sku loc : Int) (i : Nat) : Bool := decide (i < l.length) && (ordc (rd_T37 l i) sku loc == 0)
def SPost (w : World) (l : List Spot) (sku loc : Int) (e : Ending) (w' : World) : Prop := ∃ i : Nat, e = .returned (.tuple #[.int .i64 i, .bool (foundB l sku loc i)]) ∧ Found l sku loc i ∧ Below w.heap.size w w'
set_option maxRecDepth 100000 in
set_option maxHeartbeats 16000000 in
theorem search_any (A : Option Addr) (c : Nat) (l : List Spot) (sku loc : Int) (w : World) (hC : Kd.C k37 w A l.length l) (hl : l.length ≤ 1099511627776) :
    Calls Try.prog 55 #[.slice A l.length c, .agg #[.int .i64 sku, .int .i64 loc, .int .i64 0, .int .i64 0], .func (.func 23) #[] #[]] w (SPost w l sku loc) := by
  have HR := Aside0.mk hC
  obtain ⟨n, hn⟩ : ∃ n, n = l.length := ⟨_, rfl⟩
  have HN := Aside0.mk hn
  rw [← hn] at hl ⊢
  clear hC hn
  go_enter Try.func55, Try.ntmps55
  go_wp2
  go_loopw [9, 10] (fun lv hv wr => ∃ (lo hi : Nat), lo ≤ hi ∧ hi ≤ n ∧ lv = .int .i64 lo ∧ hv = .int .i64 hi ∧ Aside0 ((lo = 0 ∨ ordc (rd_T37 l ((lo : Int) - 1)) sku loc < 0) ∧ (hi = l.length ∨ 0 ≤ ordc (rd_T37 l hi) sku loc)) ∧ Aside0 (Below w.heap.size w wr ∧ wr.heap[w.heap.size]? = some (.cells #[.int .i64 sku, .int .i64 loc, .int .i64 0, .int .i64 0] 37 (0, 0)))) (fun lv hv _ => (intOf hv).toNat - (intOf lv).toNat)
  case atStart => exact ⟨0, n, by omega, by omega, rfl, rfl, ⟨.inl rfl, .inl HN.out⟩, ⟨(Below.refl _ _).alloc (Nat.le_refl _) _, heap_alloc_new w _⟩⟩
  case round =>
    obtain ⟨lo, hi, h1, h2, rfl, rfl, HO, HB⟩ := hrel
    by_cases hlt : lo < hi
    · obtain ⟨h, hh⟩ : ∃ h : Nat, (h : Int) = ((lo : Int) + (hi : Int)) / 2 := ⟨(lo + hi) / 2, by omega⟩
      have hlo : lo ≤ h := by omega
      have hhi : h < hi := by omega
      have HH := Aside0.mk hh
      clear hh
      obtain ⟨ad, rfl, c0, c1, c2, c3⟩ := at_T37 (Kd.C_below HR.out HB.out.1) (h : Int) (by omega) (by rw [← HN.out]; omega)
      rw [Int.toNat_natCast] at c0 c1 c2 c3
      obtain ⟨x, hx⟩ : ∃ x, x = rd_T37 l (h : Int) := ⟨_, rfl⟩
      rw [← hx] at c0 c1 c2 c3
      have HX := Aside0.mk hx
      have hg := HB.out.2
      have d0 : wr.cell? ⟨w.heap.size, 0, none⟩ = some (.int .i64 sku) := by rw [cell_of_row _ _ _ _ _ _ hg]; rfl
      have d1 : wr.cell? ⟨w.heap.size, 1, none⟩ = some (.int .i64 loc) := by rw [cell_of_row _ _ _ _ _ _ hg]; rfl
      have d2 : wr.cell? ⟨w.heap.size, 2, none⟩ = some (.int .i64 0) := by rw [cell_of_row _ _ _ _ _ _ hg]; rfl
      have d3 : wr.cell? ⟨w.heap.size, 3, none⟩ = some (.int .i64 0) := by rw [cell_of_row _ _ _ _ _ _ hg]; rfl
      have e1 : (h : Int) < (n : Int) := by omega
      clear hx hg
      go_wp2
      rw [← HH.out]
      obtain ⟨r, hr⟩ : ∃ r, r = ordc x sku loc := ⟨_, rfl⟩
      have HRR := Aside0.mk hr
      clear hr
      go_region_law ((go_simp; go_at_call 23; refine (order_any x sku loc 0 0 _).mono ?_; rw [← HRR.out]; rintro e w1 ⟨rfl, hb⟩; have HB2 : Aside0 (Below w.heap.size w w1 ∧ w1.heap[w.heap.size]? = some (.cells #[.int .i64 sku, .int .i64 loc, .int .i64 0, .int .i64 0] 37 (0, 0))) := ⟨below_then (below_drew HB.out.1) HB.out.1.size hb, (hb.block _ (Array.getElem?_eq_some_iff.1 HB.out.2).1).trans HB.out.2⟩; clear hb))
      all_goals
        go_wp2
        · refine ⟨⟨h + 1, hi, by omega, by omega, by go_num, rfl, ⟨.inr ?_, HO.out.2⟩, HB2⟩, by simp [intOf]; omega⟩
          rw [show ((h + 1 : Nat) : Int) - 1 = (h : Int) by omega, ← HX.out, ← HRR.out]; assumption
        · refine ⟨⟨lo, h, by omega, by omega, rfl, rfl, ⟨HO.out.1, .inr ?_⟩, HB2⟩, by simp [intOf]; omega⟩
          rw [← HX.out, ← HRR.out]
          have : ¬ r < 0 := by assumption
          omega
    · obtain rfl : lo = hi := by omega
      have hF : Found l sku loc lo := ⟨by rw [← HN.out]; omega, HO.out.1, HO.out.2⟩
      by_cases hn : lo < n
      · obtain ⟨ad, rfl, c0, c1, c2, c3⟩ := at_T37 (Kd.C_below HR.out HB.out.1) (lo : Int) (by omega) (by rw [← HN.out]; omega)
        rw [Int.toNat_natCast] at c0 c1 c2 c3
        have hfb : foundB l sku loc lo = (ordc (rd_T37 l (lo : Int)) sku loc == 0) := by
          unfold foundB
          rw [show decide (lo < l.length) = true from decide_eq_true (by rw [← HN.out]; exact hn), Bool.true_and]
        obtain ⟨x, hx⟩ : ∃ x, x = rd_T37 l (lo : Int) := ⟨_, rfl⟩
        rw [← hx] at c0 c1 c2 c3 hfb
        have HX := Aside0.mk (And.intro hF hfb)
        have hg := HB.out.2
        have d0 : wr.cell? ⟨w.heap.size, 0, none⟩ = some (.int .i64 sku) := by rw [cell_of_row _ _ _ _ _ _ hg]; rfl
        have d1 : wr.cell? ⟨w.heap.size, 1, none⟩ = some (.int .i64 loc) := by rw [cell_of_row _ _ _ _ _ _ hg]; rfl
        have d2 : wr.cell? ⟨w.heap.size, 2, none⟩ = some (.int .i64 0) := by rw [cell_of_row _ _ _ _ _ _ hg]; rfl
        have d3 : wr.cell? ⟨w.heap.size, 3, none⟩ = some (.int .i64 0) := by rw [cell_of_row _ _ _ _ _ _ hg]; rfl
        have g1 : decide (lo < n) = true := decide_eq_true hn
        have g2 : (lo : Int) < (n : Int) := by omega
        clear hx hg hF hfb
        go_wp2
        obtain ⟨r, hr⟩ : ∃ r, r = ordc x sku loc := ⟨_, rfl⟩
        have HRR := Aside0.mk hr
        clear hr
        go_region_held3 (fun W_ => (W_.cell? (ad.add (lo * 4)) = some (.int .i64 x.f0) ∧ W_.cell? ⟨(ad.add (lo * 4)).block, (ad.add (lo * 4)).off + 1, none⟩ = some (.int .i64 x.f1) ∧ W_.cell? ⟨(ad.add (lo * 4)).block, (ad.add (lo * 4)).off + 2, none⟩ = some (.int .i64 x.f2) ∧ W_.cell? ⟨(ad.add (lo * 4)).block, (ad.add (lo * 4)).off + 3, none⟩ = some (.int .i64 x.f3)) ∧ (W_.cell? ⟨w.heap.size, 0, none⟩ = some (.int .i64 sku) ∧ W_.cell? ⟨w.heap.size, 1, none⟩ = some (.int .i64 loc) ∧ W_.cell? ⟨w.heap.size, 2, none⟩ = some (.int .i64 0) ∧ W_.cell? ⟨w.heap.size, 3, none⟩ = some (.int .i64 0)) ∧ Aside0 (Below w.heap.size w W_)) (first | exact ⟨⟨c0, c1, c2, c3⟩, ⟨d0, d1, d2, d3⟩, ⟨below_drew HB.out.1⟩⟩ | exact ⟨⟨pw_cell_below hb c0, pw_cell_below hb c1, pw_cell_below hb c2, pw_cell_below hb c3⟩, ⟨pw_cell_below hb d0, pw_cell_below hb d1, pw_cell_below hb d2, pw_cell_below hb d3⟩, HB2⟩) (first | (go_at_call 23; refine (order_any x sku loc 0 0 _).mono ?_; rw [← HRR.out]; rintro e w1 ⟨rfl, hb⟩; have HB2 := below_next (w := w) hb ⟨below_drew HB.out.1⟩))
        go_wp2
        go_ret2
        refine ⟨lo, ?_, HX.out.1, HB2.out⟩
        rw [HX.out.2, ← HRR.out]
        rfl
      · have hfb : foundB l sku loc lo = false := by
          unfold foundB
          rw [show decide (lo < l.length) = false from decide_eq_false (by rw [← HN.out]; exact hn), Bool.false_and]
        have HX := Aside0.mk (And.intro hF hfb)
        have g1 : decide (lo < n) = false := decide_eq_false hn
        have g2 : ¬ (lo : Int) < (n : Int) := by omega
        have g3 : decide ((lo : Int) < (n : Int)) = false := decide_eq_false g2
        clear hF hfb
        go_wp2
        go_quiet (fail)
        go_wp2
        go_ret2
        exact ⟨lo, by rw [HX.out.2]; rfl, HX.out.1, pw_below_drewN HB.out.1 _⟩
end Go.Proofs.Ytkhghabenhhhaaa.Stock
