/- The walk of stock.At. -/
import Derived.Test.YtkhghabenhhhaaaStockHold
namespace Go.Proofs.Ytkhghabenhhhaaa.Stock
open Go Go.RowKit Go.Proofs.Ytkhghabenhhhaaa.Pa Go.Proofs.YtkhghabenhhhaaaW.PrintWords
set_option linter.unusedVariables false

def atP (l : List Spot) (sku loc : Int) : Spot := if mayB l = true then getS l sku loc else noS sku loc
set_option maxRecDepth 100000 in
set_option maxHeartbeats 8000000 in
theorem At_any (A : Option Addr) (c : Nat) (l : List Spot) (sku loc : Int) (w : World) (hC : Kd.C k37 w A l.length l) (hc : l.length ≤ c) (hl : l.length ≤ 99999999999) (hs : inI sku) (ho : inI loc) :
    Calls Try.prog 16 #[.slice A l.length c, .int .i64 sku, .int .i64 loc] w (AtPost w (atP l sku loc)) := by
  have hw0 : Below w.heap.size w (w.alloc (.cells #[.int .i64 0, .int .i64 0, .int .i64 0, .int .i64 0] 37)) := (Below.refl _ _).alloc (Nat.le_refl _) _
  have p := may_any A c l _ (Kd.C_below hC hw0) hc hl
  obtain ⟨n, hn⟩ : ∃ n, n = l.length := ⟨_, rfl⟩
  obtain ⟨mm, hmm⟩ : ∃ mm, mm = mayB l := ⟨_, rfl⟩
  have HX := Aside0.mk (And.intro hC (And.intro hc (And.intro hl (And.intro hs (And.intro ho hn)))))
  have HW := Aside0.mk hw0
  unfold atP
  rw [← hmm] at p ⊢
  rw [← hn] at p ⊢
  have HM := Aside0.mk hmm
  obtain ⟨y, hy⟩ : ∃ y, y = (if mm = true then getS l sku loc else noS sku loc) := ⟨_, rfl⟩
  rw [← hy]
  have HG := Aside0.mk hy
  clear hC hc hl hs ho hw0 hn hmm hy
  go_enter Try.func16, Try.ntmps16
  go_wp2_with fail
  go_at_call 10
  refine p.mono ?_
  rintro e w1 ⟨rfl, hb⟩
  have hbl := below_then HW.out (by simp) hb
  have k0 := (hb.block w.heap.size (by simp)).trans (heap_alloc_new w _)
  have hcl := hb.size
  obtain ⟨z0, z1, z2, z3, u0, u1, u2, u3⟩ := cells_of4 k0
  have HK := Aside0.mk k0
  have HY := Aside0.mk hbl
  have HL : Aside0 (w.heap.size < w1.heap.size) := ⟨by have := hb.size; simp at this; omega⟩
  clear p hb hbl k0 hcl
  cases mm with
  | true =>
    have hm := mayB_iff.1 HM.out.symm
    have pa := fun W hb => at_any A c l sku loc W (Kd.C_below HX.out.1 hb) hm HX.out.2.2.2.1.1 HX.out.2.2.2.1.2 HX.out.2.2.2.2.1.1 HX.out.2.2.2.2.1.2
    rw [← HX.out.2.2.2.2.2] at pa
    have hx : getS l sku loc = y := by rw [HG.out]; rfl
    rw [hx] at pa
    clear hm hx HG
    go_wp2_with fail
    go_at_call 35
    refine (pa _ HY.out).mono ?_
    rintro e w2 ⟨rfl, hb⟩
    have k0 := (hb.block w.heap.size HL.out).trans HK.out
    have hbl := below_then HY.out (Nat.le_of_lt HL.out) hb
    obtain ⟨z0, z1, z2, z3, u0, u1, u2, u3⟩ := cells_of4 k0
    have HK := Aside0.mk k0
    have HY := Aside0.mk hbl
    clear pa hb hbl k0
    go_wp2
    have hbl := HY.out
    obtain ⟨e0, e1, e2, e3, _, _, _, _⟩ := cells_of4 (set4 HK.out (.int .i64 y.f0) (.int .i64 y.f1) (.int .i64 y.f2) (.int .i64 y.f3))
    exact bodyPost_ret (v := .agg #[.int .i64 y.f0, .int .i64 y.f1, .int .i64 y.f2, .int .i64 y.f3]) (by simp [results, Try.results16, go_sem, e0, e1, e2, e3]) rfl ⟨rfl, (((hbl.setCell (p := ⟨w.heap.size, 0, none⟩) (Nat.le_refl _) _).setCell (p := ⟨w.heap.size, 1, none⟩) (Nat.le_refl _) _).setCell (p := ⟨w.heap.size, 2, none⟩) (Nat.le_refl _) _).setCell (p := ⟨w.heap.size, 3, none⟩) (Nat.le_refl _) _⟩
  | false =>
    go_wp2
    have hbl := HY.out
    obtain ⟨e0, e1, e2, e3, _, _, _, _⟩ := cells_of4 (set4 HK.out (.int .i64 sku) (.int .i64 loc) (.int .i64 0) (.int .i64 0))
    exact bodyPost_ret (v := .agg #[.int .i64 sku, .int .i64 loc, .int .i64 0, .int .i64 0]) (by simp [results, Try.results16, go_sem, e0, e1, e2, e3]) rfl ⟨(congrArg (fun t : Spot => Ending.returned (.agg #[.int .i64 t.f0, .int .i64 t.f1, .int .i64 t.f2, .int .i64 t.f3])) HG.out).symm, (((hbl.setCell (p := ⟨w.heap.size, 0, none⟩) (Nat.le_refl _) _).setCell (p := ⟨w.heap.size, 1, none⟩) (Nat.le_refl _) _).setCell (p := ⟨w.heap.size, 2, none⟩) (Nat.le_refl _) _).setCell (p := ⟨w.heap.size, 3, none⟩) (Nat.le_refl _) _⟩
end Go.Proofs.Ytkhghabenhhhaaa.Stock
