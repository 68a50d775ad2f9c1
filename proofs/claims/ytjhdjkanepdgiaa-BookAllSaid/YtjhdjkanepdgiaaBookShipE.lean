/- book.Ship: where there is none to be shipped; all its ways. No conditions beside those that each contract states. -/
import Derived.Test.YtjhdjkanepdgiaaBookShip
namespace Go.Proofs.Ytjhdjkanepdgiaa.Book
open Go Go.RowKit Go.Proofs.Ytjhdjkanepdgiaa.Pa Go.Proofs.Ytjhdjkanepdgiaa.Pb Go.Proofs.YtjhdjkanepdgiaaW.PrintWords Go.Proofs.YtjhdjkanepdgiaaW.PrintLast Go.Proofs.YtjhdjkanepdgiaaW.PrintMore Go.Proofs.Ytjhdjkanepdgiaa.Sl
set_option linter.unusedVariables false
set_option linter.unusedSimpArgs false

set_option maxRecDepth 100000 in
set_option maxHeartbeats 8000000 in
theorem ship_err (id line q : Int) (A : Option Addr) (c : Nat) (l : List Booking) (w : World) (hC : Kd.C k25 w A l.length l) (hc : l.length ≤ c) (hl : l.length ≤ 999999999) (h0 : (foundP l id).2.2 ≠ 0) :
    Calls Try.prog 12 #[.slice A l.length c, .int .i64 id, .int .i64 line, .int .i64 q] w (ShipPost w (shipP l id line q)) := by
  have hw0 : Below w.heap.size w (w.alloc (.cells #[.int .i64 0, .int .i64 0, .int .i64 0] 33)) := (Below.refl _ _).alloc (Nat.le_refl _) _
  have hblk : Blk (w.alloc (.cells #[.int .i64 0, .int .i64 0, .int .i64 0] 33)) w.heap.size z33 := heap_alloc_new w _
  have pf := found_any id A c l _ (Kd.C_below hC hw0) hc hl
  obtain ⟨r, hr⟩ : ∃ r, r = shipP l id line q := ⟨_, rfl⟩
  rw [← hr]
  have hr2 : r = ([], z33, (foundP l id).2.2) := by rw [hr]; unfold shipP; rw [if_neg h0]
  obtain ⟨n, hn⟩ : ∃ n, n = l.length := ⟨_, rfl⟩
  obtain ⟨E, hE⟩ : ∃ E, E = (foundP l id).2.2 := ⟨_, rfl⟩
  obtain ⟨i, hi⟩ : ∃ i, i = (foundP l id).2.1 := ⟨_, rfl⟩
  rw [← hE] at pf hr2 h0
  rw [← hi] at pf
  have HX := Aside0.mk hr2
  have HW := Aside0.mk (And.intro hw0 hblk)
  have e1 : (E != 0) = true := by simp [h0]
  rw [← hn] at pf ⊢
  clear hC hc hl hr h0 hr2 hn hE hi hw0 hblk
  go_enter Try.func12, Try.ntmps12
  go_wp2_with fail
  go_at_call 28
  refine pf.mono ?_
  rintro e w1 ⟨v, rfl, hS, hb⟩
  have hblk1 : Blk w1 w.heap.size z33 := HW.out.2.below hb (by simp)
  have hb1 : Below w.heap.size w w1 := HW.out.1.trans (hb.mono (by simp))
  obtain ⟨y0, y1, y2, y3, y4, y5⟩ := hblk1.cells
  have HS := Aside0.mk (And.intro hb1 hblk1)
  clear pf hS hb hblk1 hb1
  go_wp2
  obtain ⟨w2, hw2⟩ : ∃ w2 : World, w2 = ((w1.setCell ⟨w.heap.size, 0, none⟩ (.int .i64 0)).setCell ⟨w.heap.size, 1, none⟩ (.int .i64 0)).setCell ⟨w.heap.size, 2, none⟩ (.int .i64 0) := ⟨_, rfl⟩
  have hk2 : Blk w2 w.heap.size z33 := by rw [hw2]; exact HS.out.2.set z33
  have hb2 : Below w.heap.size w w2 := by
    rw [hw2]
    exact ((HS.out.1.setCell (p := ⟨w.heap.size, 0, none⟩) (Nat.le_refl _) _).setCell (p := ⟨w.heap.size, 1, none⟩) (Nat.le_refl _) _).setCell (p := ⟨w.heap.size, 2, none⟩) (Nat.le_refl _) _
  rw [← hw2]
  refine bodyPost_ret (v := .tuple #[.slice none 0 0, .agg #[.int .i64 0, .int .i64 0, .int .i64 0], .int .i64 E]) ?_ rfl ?_
  · simp [results, Try.results12, Sem.run_bind]
    exact hk2.result _ _
  · refine ⟨.slice none 0 0, ?_, ?_, hb2⟩
    · rw [HX.out]; rfl
    · rw [HX.out]; exact Kd.S_nil _ _ _ _ _
theorem ship_any (id line q : Int) (A : Option Addr) (c : Nat) (l : List Booking) (w : World) (hC : Kd.C k25 w A l.length l) (hc : l.length ≤ c) (hl : Lim l) :
    Calls Try.prog 12 #[.slice A l.length c, .int .i64 id, .int .i64 line, .int .i64 q] w (ShipPost w (shipP l id line q)) := by
  by_cases h0 : (foundP l id).2.2 = 0
  · by_cases h1 : line < 0
    · exact ship_neg id line q A c l w hC hc hl h0 h1
    · by_cases h2 : ((rd_T25 l (idxB id l)).f2.length : Int) ≤ line
      · exact ship_over id line q A c l w hC hc hl h0 (by omega) h2
      · by_cases h3 : q ≤ 0
        · exact ship_none id line q A c l w hC hc hl h0 (by omega) (by omega) h3
        · by_cases h4 : (rd_T33 (rd_T25 l (idxB id l)).f2 line).f2 < q
          · exact ship_few id line q A c l w hC hc hl h0 (by omega) (by omega) (by omega) h4
          · exact ship_good id line q A c l w hC hc hl h0 (by omega) (by omega) (by omega) (by omega)
  · exact ship_err id line q A c l w hC hc hl.1 h0
end Go.Proofs.Ytjhdjkanepdgiaa.Book
