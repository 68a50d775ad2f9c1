/- book.Ship: the walk. No conditions beside those that the contract states. -/
import Derived.Test.YtjhdjkanepdgiaaBookClose
import Derived.RegionTactic
namespace Go.Proofs.Ytjhdjkanepdgiaa.Book
open Go Go.RowKit Go.Proofs.Ytjhdjkanepdgiaa.Pa Go.Proofs.Ytjhdjkanepdgiaa.Pb Go.Proofs.YtjhdjkanepdgiaaW.PrintWords Go.Proofs.YtjhdjkanepdgiaaW.PrintLast Go.Proofs.YtjhdjkanepdgiaaW.PrintMore Go.Proofs.Ytjhdjkanepdgiaa.Sl
set_option linter.unusedVariables false
set_option linter.unusedSimpArgs false

def inI (n : Int) : Prop := -9223372036854775808 ≤ n ∧ n < 9223372036854775808
instance (n : Int) : Decidable (inI n) := by unfold inI; infer_instance
/-- Bookings whose lines' numbers are such. -/
def Lim (l : List Booking) : Prop := l.length ≤ 999999999 ∧ ∀ x ∈ l, ∀ y ∈ x.f2, y.f2 < 9223372036854775808
instance (l : List Booking) : Decidable (Lim l) := by unfold Lim; infer_instance
def shipP (l : List Booking) (id line n : Int) : List Booking × Line × Int :=
  if (foundP l id).2.2 = 0 then
    (if line < 0 ∨ ((rd_T25 l (idxB id l)).f2.length : Int) ≤ line then ([], z33, 3)
     else if n ≤ 0 then ([], z33, 1)
     else if (rd_T33 (rd_T25 l (idxB id l)).f2 line).f2 < n then ([], z33, 31)
     else ((if ((rd_T25 l (idxB id l)).f2.set line.toNat { rd_T33 (rd_T25 l (idxB id l)).f2 line with f2 := (rd_T33 (rd_T25 l (idxB id l)).f2 line).f2 - n }).any openL = true
            then l.set (idxB id l).toNat { rd_T25 l (idxB id l) with f2 := (rd_T25 l (idxB id l)).f2.set line.toNat { rd_T33 (rd_T25 l (idxB id l)).f2 line with f2 := (rd_T33 (rd_T25 l (idxB id l)).f2 line).f2 - n } }
            else l.eraseIdx (idxB id l).toNat), { rd_T33 (rd_T25 l (idxB id l)).f2 line with f2 := n }, 0))
  else ([], z33, (foundP l id).2.2)
def ShipPost (w : World) (r : List Booking × Line × Int) (e : Ending) (w' : World) : Prop :=
  ∃ v0 : Value, e = .returned (.tuple #[v0, .agg #[.int .i64 r.2.1.f0, .int .i64 r.2.1.f1, .int .i64 r.2.1.f2], .int .i64 r.2.2]) ∧ Kd.S k25 25 w' w.heap.size (fun _ => True) v0 r.1 ∧ Below w.heap.size w w'
theorem set_same {l : List Value} {i : Nat} {v : Value} (h : l[i]? = some v) : l.set i v = l := by
  apply List.ext_getElem?
  intro j
  rw [List.getElem?_set]
  by_cases hj : i = j
  · subst hj
    obtain ⟨hl, he⟩ := List.getElem?_eq_some_iff.1 h
    rw [if_pos rfl, if_pos hl, h]
  · rw [if_neg hj]
theorem ArrL.setQ {w : World} {g cap : Nat} {h : List Line} (k : ArrL w g cap h) (i : Nat) (hi : i < h.length) (v : Int) :
    ArrL (w.setCell ⟨g, i * 3 + 2, none⟩ (.int .i64 v)) g cap (h.set i { h[i] with f2 := v }) := by
  obtain ⟨cur, h1, h2, h3, h4, h5⟩ := k
  refine ⟨_, heap_setCellL h1 _, by simpa using h2, h3, by simpa using h4, ?_⟩
  obtain ⟨c0, c1, _⟩ := flatL_get h i hi
  rw [atL_get hi] at c0 c1
  rw [flatL_set h i _ hi, set_same c0, set_same c1, ← h5]
  simp [List.take_set]
/-- A line's block. -/
def Blk (w : World) (b : Nat) (x : Line) : Prop := w.heap[b]? = some (.cells #[.int .i64 x.f0, .int .i64 x.f1, .int .i64 x.f2] 33 (0, 0))
theorem Blk.cells {w : World} {b : Nat} {x : Line} (h : Blk w b x) : w.cell? ⟨b, 0, none⟩ = some (.int .i64 x.f0) ∧ w.cell? ⟨b, 1, none⟩ = some (.int .i64 x.f1) ∧ w.cell? ⟨b, 2, none⟩ = some (.int .i64 x.f2) ∧ w.frozen? ⟨b, 0, none⟩ = false ∧ w.frozen? ⟨b, 1, none⟩ = false ∧ w.frozen? ⟨b, 2, none⟩ = false := by
  unfold Blk at h
  refine ⟨by rw [cell_of_row _ _ _ _ _ _ h]; rfl, by rw [cell_of_row _ _ _ _ _ _ h]; rfl, by rw [cell_of_row _ _ _ _ _ _ h]; rfl, ?_, ?_, ?_⟩ <;> simp [World.frozen?, h]
theorem Blk.set {w : World} {b : Nat} {x : Line} (h : Blk w b x) (y : Line) : Blk (((w.setCell ⟨b, 0, none⟩ (.int .i64 y.f0)).setCell ⟨b, 1, none⟩ (.int .i64 y.f1)).setCell ⟨b, 2, none⟩ (.int .i64 y.f2)) b y := by
  unfold Blk at *
  rw [heap_setCellL (heap_setCellL (heap_setCellL h _) _) _]
  rfl
theorem Blk.load {w : World} {b : Nat} {x : Line} (h : Blk w b x) : Sem.run Try.prog (loadVar 33 ⟨b, 0, none⟩) w = .ok (.agg #[.int .i64 x.f0, .int .i64 x.f1, .int .i64 x.f2]) w :=
  run_loadVar_row w b 33 33 _ (0, 0) _ h Try.underlying33 rfl (by kernel_rfl)
theorem Blk.result {w : World} {b : Nat} {x : Line} (h : Blk w b x) (v : Value) (E : Int) : ((Sem.run Try.prog (asAddr (Value.pointer (some ⟨b, 0, none⟩))) w).andThen fun a w' =>
      (Sem.run Try.prog (loadVar 33 a) w').andThen fun a w' => Result.ok (Value.tuple #[v, a, Value.int IntKind.i64 E]) w') = Result.ok (Value.tuple #[v, .agg #[.int .i64 x.f0, .int .i64 x.f1, .int .i64 x.f2], .int .i64 E]) w := by
  have hl := h.load
  show ((Sem.run Try.prog (loadVar 33 ⟨b, 0, none⟩) w).andThen fun a w' => Result.ok (Value.tuple #[v, a, Value.int IntKind.i64 E]) w') = _
  rw [hl]
  rfl
theorem Blk.below {w w' : World} {b B : Nat} {x : Line} (h : Blk w b x) (hb : Below B w w') (hl : b < B) : Blk w' b x := (hb.block b hl).trans h
theorem Blk.lt {w : World} {b : Nat} {x : Line} (h : Blk w b x) : b < w.heap.size := (Array.getElem?_eq_some_iff.1 h).1
set_option maxRecDepth 100000 in
set_option maxHeartbeats 16000000 in
theorem ship_neg (id line q : Int) (A : Option Addr) (c : Nat) (l : List Booking) (w : World) (hC : Kd.C k25 w A l.length l) (hc : l.length ≤ c) (hl : Lim l) (h0 : (foundP l id).2.2 = 0) (h1 : line < 0) :
    Calls Try.prog 12 #[.slice A l.length c, .int .i64 id, .int .i64 line, .int .i64 q] w (ShipPost w (shipP l id line q)) := by
  have hw0 : Below w.heap.size w (w.alloc (.cells #[.int .i64 0, .int .i64 0, .int .i64 0] 33)) := (Below.refl _ _).alloc (Nat.le_refl _) _
  have hblk : Blk (w.alloc (.cells #[.int .i64 0, .int .i64 0, .int .i64 0] 33)) w.heap.size z33 := heap_alloc_new w _
  have pf := found_any id A c l _ (Kd.C_below hC hw0) hc hl.1
  obtain ⟨r, hr⟩ : ∃ r, r = shipP l id line q := ⟨_, rfl⟩
  rw [← hr]
  obtain ⟨n, hn⟩ : ∃ n, n = l.length := ⟨_, rfl⟩
  obtain ⟨hm, i, hi, hix, hf⟩ := foundP_zero h0
  rw [hf] at pf
  simp only at pf
  unfold shipP at hr
  rw [if_pos h0, hix] at hr
  have hq2 : ∀ y ∈ (rd_T25 l (i : Int)).f2, y.f2 < 9223372036854775808 := by rw [rdB hi]; exact hl.2 _ (List.getElem_mem hi)
  obtain ⟨x, hx⟩ : ∃ x, x = rd_T25 l (i : Int) := ⟨_, rfl⟩
  rw [← hx] at hr hq2
  have hres : r = ([], z33, 3) := by rw [hr, if_pos (.inl h1)]
  have HX := Aside0.mk (And.intro hres (And.intro hm (And.intro hi (And.intro hn (And.intro hx hq2)))))
  have HW := Aside0.mk (And.intro hw0 hblk)
  rw [← hn] at pf ⊢
  have hni : i < n := by omega
  have hn8 : n ≤ 8 := by have := hm.2.2; omega
  clear hC hc hl hr h0 hm hix hf hres hn hi hw0 hblk hx hq2
  go_enter Try.func12, Try.ntmps12
  go_wp2_with fail
  go_at_call 28
  refine pf.mono ?_
  rintro e w1 ⟨v, rfl, hS, hb⟩
  have hS2 := Kd.S_mono (Kd.S_bound hS) (ok' := fun k => k < w1.heap.size ∧ w.heap.size < k) (fun k hk => ⟨hk.2.2.1, by have := hk.2.1; simp at this; omega⟩)
  obtain ⟨g, cap, hv, hbg, hgl, _⟩ := Kd.S_form hS2 (by have := HX.out.2.2.1; omega)
  subst hv
  obtain ⟨oki, cs, _, hM, hcell, hoki, hH⟩ := Kd.S_lend hS2 z25 (i : Int) (by omega) (by have := HX.out.2.2.1; omega)
  have hxe : l.getD (i : Int).toNat z25 = x := by rw [HX.out.2.2.2.2.1]; rfl
  rw [hxe] at hM
  obtain ⟨v2, rfl, hv2⟩ := k25_openM hM
  have hlen := one_len (HX.out.2.1.1 _ (List.getElem_mem HX.out.2.2.1))
  rw [← rdB HX.out.2.2.1, ← HX.out.2.2.2.2.1] at hlen
  obtain ⟨A2, c2, hv2e⟩ := Kd.R_slice hv2
  subst hv2e
  obtain ⟨g2, rfl, hbg2, hA2, hok2⟩ := ArrL.of_R hv2 (by omega)
  have hcl := hcell 2 _ rfl
  rw [Int.toNat_natCast] at hcl
  have hcl2 : w1.cell? ⟨g, i * 3 + 2, none⟩ = some (.slice (some ⟨g2, 0, none⟩) x.f2.length c2) := hcl
  have hcap : l.length ≤ cap := (Kd.S_reads' hS2).2.1
  have hblk1 : Blk w1 w.heap.size z33 := HW.out.2.below hb (by simp)
  have hb1 : Below w.heap.size w w1 := HW.out.1.trans (hb.mono (by simp))
  have HS := Aside0.mk (And.intro hH (And.intro hA2 (And.intro hok2 (And.intro hoki (And.intro hb1 (And.intro hblk1 hlen))))))
  obtain ⟨y0, y1, y2, y3, y4, y5⟩ := hblk1.cells
  rw [← HX.out.2.2.2.1]
  obtain ⟨m, hmm⟩ : ∃ m, m = x.f2.length := ⟨_, rfl⟩
  have HMM := Aside0.mk hmm
  rw [← hmm] at hcl2
  have hm4 : m ≤ 4 := by omega
  have hm1 : 1 ≤ m := by omega
  have hwg : w.heap.size < g := by simp at hbg; omega
  clear hS hS2 hv2 hH hM hlen hb pf hmm hbg hcap hcell hcl hblk1 hxe hA2 hb1
  skip
  go_wp2
  obtain ⟨w2, hw2⟩ : ∃ w2 : World, w2 = ((w1.setCell ⟨w.heap.size, 0, none⟩ (.int .i64 0)).setCell ⟨w.heap.size, 1, none⟩ (.int .i64 0)).setCell ⟨w.heap.size, 2, none⟩ (.int .i64 0) := ⟨_, rfl⟩
  have hk2 : Blk w2 w.heap.size z33 := by rw [hw2]; exact HS.out.2.2.2.2.2.1.set z33
  have hb2 : Below w.heap.size w w2 := by
    rw [hw2]
    exact ((HS.out.2.2.2.2.1.setCell (p := ⟨w.heap.size, 0, none⟩) (Nat.le_refl _) _).setCell (p := ⟨w.heap.size, 1, none⟩) (Nat.le_refl _) _).setCell (p := ⟨w.heap.size, 2, none⟩) (Nat.le_refl _) _
  rw [← hw2]
  refine bodyPost_ret (v := .tuple #[.slice none 0 0, .agg #[.int .i64 0, .int .i64 0, .int .i64 0], .int .i64 3]) ?_ rfl ?_
  · simp [results, Try.results12, Sem.run_bind]
    exact hk2.result _ _
  · refine ⟨.slice none 0 0, ?_, ?_, hb2⟩
    · rw [HX.out.1]; rfl
    · rw [HX.out.1]; exact Kd.S_nil _ _ _ _ _
set_option maxRecDepth 100000 in
set_option maxHeartbeats 16000000 in
theorem ship_over (id line q : Int) (A : Option Addr) (c : Nat) (l : List Booking) (w : World) (hC : Kd.C k25 w A l.length l) (hc : l.length ≤ c) (hl : Lim l) (h0 : (foundP l id).2.2 = 0) (h1 : 0 ≤ line) (h2 : ((rd_T25 l (idxB id l)).f2.length : Int) ≤ line) :
    Calls Try.prog 12 #[.slice A l.length c, .int .i64 id, .int .i64 line, .int .i64 q] w (ShipPost w (shipP l id line q)) := by
  have hw0 : Below w.heap.size w (w.alloc (.cells #[.int .i64 0, .int .i64 0, .int .i64 0] 33)) := (Below.refl _ _).alloc (Nat.le_refl _) _
  have hblk : Blk (w.alloc (.cells #[.int .i64 0, .int .i64 0, .int .i64 0] 33)) w.heap.size z33 := heap_alloc_new w _
  have pf := found_any id A c l _ (Kd.C_below hC hw0) hc hl.1
  obtain ⟨r, hr⟩ : ∃ r, r = shipP l id line q := ⟨_, rfl⟩
  rw [← hr]
  obtain ⟨n, hn⟩ : ∃ n, n = l.length := ⟨_, rfl⟩
  obtain ⟨hm, i, hi, hix, hf⟩ := foundP_zero h0
  rw [hf] at pf
  simp only at pf
  unfold shipP at hr
  rw [if_pos h0, hix] at hr
  rw [hix] at h2
  have hq2 : ∀ y ∈ (rd_T25 l (i : Int)).f2, y.f2 < 9223372036854775808 := by rw [rdB hi]; exact hl.2 _ (List.getElem_mem hi)
  obtain ⟨x, hx⟩ : ∃ x, x = rd_T25 l (i : Int) := ⟨_, rfl⟩
  rw [← hx] at hr hq2 h2
  have hres : r = ([], z33, 3) := by rw [hr, if_pos (.inr h2)]
  have HX := Aside0.mk (And.intro hres (And.intro hm (And.intro hi (And.intro hn (And.intro hx hq2)))))
  have HW := Aside0.mk (And.intro hw0 hblk)
  rw [← hn] at pf ⊢
  have hni : i < n := by omega
  have hn8 : n ≤ 8 := by have := hm.2.2; omega
  clear hC hc hl hr h0 hm hix hf hres hn hi hw0 hblk hx hq2
  go_enter Try.func12, Try.ntmps12
  go_wp2_with fail
  go_at_call 28
  refine pf.mono ?_
  rintro e w1 ⟨v, rfl, hS, hb⟩
  have hS2 := Kd.S_mono (Kd.S_bound hS) (ok' := fun k => k < w1.heap.size ∧ w.heap.size < k) (fun k hk => ⟨hk.2.2.1, by have := hk.2.1; simp at this; omega⟩)
  obtain ⟨g, cap, hv, hbg, hgl, _⟩ := Kd.S_form hS2 (by have := HX.out.2.2.1; omega)
  subst hv
  obtain ⟨oki, cs, _, hM, hcell, hoki, hH⟩ := Kd.S_lend hS2 z25 (i : Int) (by omega) (by have := HX.out.2.2.1; omega)
  have hxe : l.getD (i : Int).toNat z25 = x := by rw [HX.out.2.2.2.2.1]; rfl
  rw [hxe] at hM
  obtain ⟨v2, rfl, hv2⟩ := k25_openM hM
  have hlen := one_len (HX.out.2.1.1 _ (List.getElem_mem HX.out.2.2.1))
  rw [← rdB HX.out.2.2.1, ← HX.out.2.2.2.2.1] at hlen
  obtain ⟨A2, c2, hv2e⟩ := Kd.R_slice hv2
  subst hv2e
  obtain ⟨g2, rfl, hbg2, hA2, hok2⟩ := ArrL.of_R hv2 (by omega)
  have hcl := hcell 2 _ rfl
  rw [Int.toNat_natCast] at hcl
  have hcl2 : w1.cell? ⟨g, i * 3 + 2, none⟩ = some (.slice (some ⟨g2, 0, none⟩) x.f2.length c2) := hcl
  have hcap : l.length ≤ cap := (Kd.S_reads' hS2).2.1
  have hblk1 : Blk w1 w.heap.size z33 := HW.out.2.below hb (by simp)
  have hb1 : Below w.heap.size w w1 := HW.out.1.trans (hb.mono (by simp))
  have HS := Aside0.mk (And.intro hH (And.intro hA2 (And.intro hok2 (And.intro hoki (And.intro hb1 (And.intro hblk1 hlen))))))
  obtain ⟨y0, y1, y2, y3, y4, y5⟩ := hblk1.cells
  rw [← HX.out.2.2.2.1]
  obtain ⟨m, hmm⟩ : ∃ m, m = x.f2.length := ⟨_, rfl⟩
  have HMM := Aside0.mk hmm
  rw [← hmm] at hcl2 h2
  have hm4 : m ≤ 4 := by omega
  have hm1 : 1 ≤ m := by omega
  have hwg : w.heap.size < g := by simp at hbg; omega
  clear hS hS2 hv2 hH hM hlen hb pf hmm hbg hcap hcell hcl hblk1 hxe hA2 hb1
  skip
  go_wp2
  obtain ⟨w2, hw2⟩ : ∃ w2 : World, w2 = ((w1.setCell ⟨w.heap.size, 0, none⟩ (.int .i64 0)).setCell ⟨w.heap.size, 1, none⟩ (.int .i64 0)).setCell ⟨w.heap.size, 2, none⟩ (.int .i64 0) := ⟨_, rfl⟩
  have hk2 : Blk w2 w.heap.size z33 := by rw [hw2]; exact HS.out.2.2.2.2.2.1.set z33
  have hb2 : Below w.heap.size w w2 := by
    rw [hw2]
    exact ((HS.out.2.2.2.2.1.setCell (p := ⟨w.heap.size, 0, none⟩) (Nat.le_refl _) _).setCell (p := ⟨w.heap.size, 1, none⟩) (Nat.le_refl _) _).setCell (p := ⟨w.heap.size, 2, none⟩) (Nat.le_refl _) _
  rw [← hw2]
  refine bodyPost_ret (v := .tuple #[.slice none 0 0, .agg #[.int .i64 0, .int .i64 0, .int .i64 0], .int .i64 3]) ?_ rfl ?_
  · simp [results, Try.results12, Sem.run_bind]
    exact hk2.result _ _
  · refine ⟨.slice none 0 0, ?_, ?_, hb2⟩
    · rw [HX.out.1]; rfl
    · rw [HX.out.1]; exact Kd.S_nil _ _ _ _ _
set_option maxRecDepth 100000 in
set_option maxHeartbeats 16000000 in
theorem ship_none (id line q : Int) (A : Option Addr) (c : Nat) (l : List Booking) (w : World) (hC : Kd.C k25 w A l.length l) (hc : l.length ≤ c) (hl : Lim l) (h0 : (foundP l id).2.2 = 0) (h1 : 0 ≤ line) (h2 : line < ((rd_T25 l (idxB id l)).f2.length : Int)) (h3 : q ≤ 0) :
    Calls Try.prog 12 #[.slice A l.length c, .int .i64 id, .int .i64 line, .int .i64 q] w (ShipPost w (shipP l id line q)) := by
  have hw0 : Below w.heap.size w (w.alloc (.cells #[.int .i64 0, .int .i64 0, .int .i64 0] 33)) := (Below.refl _ _).alloc (Nat.le_refl _) _
  have hblk : Blk (w.alloc (.cells #[.int .i64 0, .int .i64 0, .int .i64 0] 33)) w.heap.size z33 := heap_alloc_new w _
  have pf := found_any id A c l _ (Kd.C_below hC hw0) hc hl.1
  obtain ⟨r, hr⟩ : ∃ r, r = shipP l id line q := ⟨_, rfl⟩
  rw [← hr]
  obtain ⟨n, hn⟩ : ∃ n, n = l.length := ⟨_, rfl⟩
  obtain ⟨hm, i, hi, hix, hf⟩ := foundP_zero h0
  rw [hf] at pf
  simp only at pf
  unfold shipP at hr
  rw [if_pos h0, hix] at hr
  rw [hix] at h2
  have hq2 : ∀ y ∈ (rd_T25 l (i : Int)).f2, y.f2 < 9223372036854775808 := by rw [rdB hi]; exact hl.2 _ (List.getElem_mem hi)
  obtain ⟨x, hx⟩ : ∃ x, x = rd_T25 l (i : Int) := ⟨_, rfl⟩
  rw [← hx] at hr hq2 h2
  have hres : r = ([], z33, 1) := by rw [hr, if_neg (by omega), if_pos h3]
  have HX := Aside0.mk (And.intro hres (And.intro hm (And.intro hi (And.intro hn (And.intro hx hq2)))))
  have HW := Aside0.mk (And.intro hw0 hblk)
  rw [← hn] at pf ⊢
  have hni : i < n := by omega
  have hn8 : n ≤ 8 := by have := hm.2.2; omega
  clear hC hc hl hr h0 hm hix hf hres hn hi hw0 hblk hx hq2
  go_enter Try.func12, Try.ntmps12
  go_wp2_with fail
  go_at_call 28
  refine pf.mono ?_
  rintro e w1 ⟨v, rfl, hS, hb⟩
  have hS2 := Kd.S_mono (Kd.S_bound hS) (ok' := fun k => k < w1.heap.size ∧ w.heap.size < k) (fun k hk => ⟨hk.2.2.1, by have := hk.2.1; simp at this; omega⟩)
  obtain ⟨g, cap, hv, hbg, hgl, _⟩ := Kd.S_form hS2 (by have := HX.out.2.2.1; omega)
  subst hv
  obtain ⟨oki, cs, _, hM, hcell, hoki, hH⟩ := Kd.S_lend hS2 z25 (i : Int) (by omega) (by have := HX.out.2.2.1; omega)
  have hxe : l.getD (i : Int).toNat z25 = x := by rw [HX.out.2.2.2.2.1]; rfl
  rw [hxe] at hM
  obtain ⟨v2, rfl, hv2⟩ := k25_openM hM
  have hlen := one_len (HX.out.2.1.1 _ (List.getElem_mem HX.out.2.2.1))
  rw [← rdB HX.out.2.2.1, ← HX.out.2.2.2.2.1] at hlen
  obtain ⟨A2, c2, hv2e⟩ := Kd.R_slice hv2
  subst hv2e
  obtain ⟨g2, rfl, hbg2, hA2, hok2⟩ := ArrL.of_R hv2 (by omega)
  have hcl := hcell 2 _ rfl
  rw [Int.toNat_natCast] at hcl
  have hcl2 : w1.cell? ⟨g, i * 3 + 2, none⟩ = some (.slice (some ⟨g2, 0, none⟩) x.f2.length c2) := hcl
  have hcap : l.length ≤ cap := (Kd.S_reads' hS2).2.1
  have hblk1 : Blk w1 w.heap.size z33 := HW.out.2.below hb (by simp)
  have hb1 : Below w.heap.size w w1 := HW.out.1.trans (hb.mono (by simp))
  have HS := Aside0.mk (And.intro hH (And.intro hA2 (And.intro hok2 (And.intro hoki (And.intro hb1 (And.intro hblk1 hlen))))))
  obtain ⟨y0, y1, y2, y3, y4, y5⟩ := hblk1.cells
  rw [← HX.out.2.2.2.1]
  obtain ⟨m, hmm⟩ : ∃ m, m = x.f2.length := ⟨_, rfl⟩
  have HMM := Aside0.mk hmm
  rw [← hmm] at hcl2 h2
  have hm4 : m ≤ 4 := by omega
  have hm1 : 1 ≤ m := by omega
  have hwg : w.heap.size < g := by simp at hbg; omega
  clear hS hS2 hv2 hH hM hlen hb pf hmm hbg hcap hcell hcl hblk1 hxe hA2 hb1
  skip
  go_wp2
  obtain ⟨w2, hw2⟩ : ∃ w2 : World, w2 = ((w1.setCell ⟨w.heap.size, 0, none⟩ (.int .i64 0)).setCell ⟨w.heap.size, 1, none⟩ (.int .i64 0)).setCell ⟨w.heap.size, 2, none⟩ (.int .i64 0) := ⟨_, rfl⟩
  have hk2 : Blk w2 w.heap.size z33 := by rw [hw2]; exact HS.out.2.2.2.2.2.1.set z33
  have hb2 : Below w.heap.size w w2 := by
    rw [hw2]
    exact ((HS.out.2.2.2.2.1.setCell (p := ⟨w.heap.size, 0, none⟩) (Nat.le_refl _) _).setCell (p := ⟨w.heap.size, 1, none⟩) (Nat.le_refl _) _).setCell (p := ⟨w.heap.size, 2, none⟩) (Nat.le_refl _) _
  rw [← hw2]
  refine bodyPost_ret (v := .tuple #[.slice none 0 0, .agg #[.int .i64 0, .int .i64 0, .int .i64 0], .int .i64 1]) ?_ rfl ?_
  · simp [results, Try.results12, Sem.run_bind]
    exact hk2.result _ _
  · refine ⟨.slice none 0 0, ?_, ?_, hb2⟩
    · rw [HX.out.1]; rfl
    · rw [HX.out.1]; exact Kd.S_nil _ _ _ _ _
set_option maxRecDepth 100000 in
set_option maxHeartbeats 16000000 in
theorem ship_few (id line q : Int) (A : Option Addr) (c : Nat) (l : List Booking) (w : World) (hC : Kd.C k25 w A l.length l) (hc : l.length ≤ c) (hl : Lim l) (h0 : (foundP l id).2.2 = 0) (h1 : 0 ≤ line) (h2 : line < ((rd_T25 l (idxB id l)).f2.length : Int)) (h3 : 0 < q) (h4 : (rd_T33 (rd_T25 l (idxB id l)).f2 line).f2 < q) :
    Calls Try.prog 12 #[.slice A l.length c, .int .i64 id, .int .i64 line, .int .i64 q] w (ShipPost w (shipP l id line q)) := by
  have hw0 : Below w.heap.size w (w.alloc (.cells #[.int .i64 0, .int .i64 0, .int .i64 0] 33)) := (Below.refl _ _).alloc (Nat.le_refl _) _
  have hblk : Blk (w.alloc (.cells #[.int .i64 0, .int .i64 0, .int .i64 0] 33)) w.heap.size z33 := heap_alloc_new w _
  have pf := found_any id A c l _ (Kd.C_below hC hw0) hc hl.1
  obtain ⟨r, hr⟩ : ∃ r, r = shipP l id line q := ⟨_, rfl⟩
  rw [← hr]
  obtain ⟨n, hn⟩ : ∃ n, n = l.length := ⟨_, rfl⟩
  obtain ⟨hm, i, hi, hix, hf⟩ := foundP_zero h0
  rw [hf] at pf
  simp only at pf
  unfold shipP at hr
  rw [if_pos h0, hix] at hr
  rw [hix] at h2 h4
  have hq2 : ∀ y ∈ (rd_T25 l (i : Int)).f2, y.f2 < 9223372036854775808 := by rw [rdB hi]; exact hl.2 _ (List.getElem_mem hi)
  obtain ⟨x, hx⟩ : ∃ x, x = rd_T25 l (i : Int) := ⟨_, rfl⟩
  rw [← hx] at hr hq2 h2 h4
  have hll : line.toNat < x.f2.length := by omega
  obtain ⟨j, hj⟩ : ∃ j : Nat, line = (j : Int) := ⟨line.toNat, by omega⟩
  subst hj
  rw [Int.toNat_natCast] at hll
  have hres : r = ([], z33, 31) := by rw [hr, if_neg (by omega), if_neg (by omega), if_pos h4]
  have HX := Aside0.mk (And.intro hres (And.intro hm (And.intro hi (And.intro hn (And.intro hx hq2)))))
  have HW := Aside0.mk (And.intro hw0 hblk)
  rw [← hn] at pf ⊢
  have hni : i < n := by omega
  have hn8 : n ≤ 8 := by have := hm.2.2; omega
  clear hC hc hl hr h0 hm hix hf hres hn hi hw0 hblk hx hq2
  go_enter Try.func12, Try.ntmps12
  go_wp2_with fail
  go_at_call 28
  refine pf.mono ?_
  rintro e w1 ⟨v, rfl, hS, hb⟩
  have hS2 := Kd.S_mono (Kd.S_bound hS) (ok' := fun k => k < w1.heap.size ∧ w.heap.size < k) (fun k hk => ⟨hk.2.2.1, by have := hk.2.1; simp at this; omega⟩)
  obtain ⟨g, cap, hv, hbg, hgl, _⟩ := Kd.S_form hS2 (by have := HX.out.2.2.1; omega)
  subst hv
  obtain ⟨oki, cs, _, hM, hcell, hoki, hH⟩ := Kd.S_lend hS2 z25 (i : Int) (by omega) (by have := HX.out.2.2.1; omega)
  have hxe : l.getD (i : Int).toNat z25 = x := by rw [HX.out.2.2.2.2.1]; rfl
  rw [hxe] at hM
  obtain ⟨v2, rfl, hv2⟩ := k25_openM hM
  have hlen := one_len (HX.out.2.1.1 _ (List.getElem_mem HX.out.2.2.1))
  rw [← rdB HX.out.2.2.1, ← HX.out.2.2.2.2.1] at hlen
  obtain ⟨A2, c2, hv2e⟩ := Kd.R_slice hv2
  subst hv2e
  obtain ⟨g2, rfl, hbg2, hA2, hok2⟩ := ArrL.of_R hv2 (by omega)
  have hcl := hcell 2 _ rfl
  rw [Int.toNat_natCast] at hcl
  have hcl2 : w1.cell? ⟨g, i * 3 + 2, none⟩ = some (.slice (some ⟨g2, 0, none⟩) x.f2.length c2) := hcl
  have hcap : l.length ≤ cap := (Kd.S_reads' hS2).2.1
  have hblk1 : Blk w1 w.heap.size z33 := HW.out.2.below hb (by simp)
  have hb1 : Below w.heap.size w w1 := HW.out.1.trans (hb.mono (by simp))
  have HS := Aside0.mk (And.intro hH (And.intro hA2 (And.intro hok2 (And.intro hoki (And.intro hb1 (And.intro hblk1 hlen))))))
  obtain ⟨y0, y1, y2, y3, y4, y5⟩ := hblk1.cells
  rw [← HX.out.2.2.2.1]
  obtain ⟨m, hmm⟩ : ∃ m, m = x.f2.length := ⟨_, rfl⟩
  have HMM := Aside0.mk hmm
  rw [← hmm] at hcl2 h2
  have hm4 : m ≤ 4 := by omega
  have hm1 : 1 ≤ m := by omega
  have hwg : w.heap.size < g := by simp at hbg; omega
  clear hS hS2 hv2 hH hM hlen hb pf hmm hbg hcap hcell hcl hblk1 hxe hA2 hb1
  obtain ⟨c0, c1, c2', _, _, _⟩ := HS.out.2.1.cells j (by have := HMM.out; omega)
  have hyy : atL x.f2 j = rd_T33 x.f2 (j : Int) := by simp [atL, rd_T33]
  rw [hyy] at c0 c1 c2'
  obtain ⟨y, hy⟩ : ∃ y, y = rd_T33 x.f2 (j : Int) := ⟨_, rfl⟩
  rw [← hy] at c0 c1 c2' h4
  clear hyy hy
  go_wp2
  obtain ⟨w2, hw2⟩ : ∃ w2 : World, w2 = ((w1.setCell ⟨w.heap.size, 0, none⟩ (.int .i64 0)).setCell ⟨w.heap.size, 1, none⟩ (.int .i64 0)).setCell ⟨w.heap.size, 2, none⟩ (.int .i64 0) := ⟨_, rfl⟩
  have hk2 : Blk w2 w.heap.size z33 := by rw [hw2]; exact HS.out.2.2.2.2.2.1.set z33
  have hb2 : Below w.heap.size w w2 := by
    rw [hw2]
    exact ((HS.out.2.2.2.2.1.setCell (p := ⟨w.heap.size, 0, none⟩) (Nat.le_refl _) _).setCell (p := ⟨w.heap.size, 1, none⟩) (Nat.le_refl _) _).setCell (p := ⟨w.heap.size, 2, none⟩) (Nat.le_refl _) _
  rw [← hw2]
  refine bodyPost_ret (v := .tuple #[.slice none 0 0, .agg #[.int .i64 0, .int .i64 0, .int .i64 0], .int .i64 31]) ?_ rfl ?_
  · simp [results, Try.results12, Sem.run_bind]
    exact hk2.result _ _
  · refine ⟨.slice none 0 0, ?_, ?_, hb2⟩
    · rw [HX.out.1]; rfl
    · rw [HX.out.1]; exact Kd.S_nil _ _ _ _ _
set_option maxRecDepth 100000 in
set_option maxHeartbeats 16000000 in
theorem ship_good (id line q : Int) (A : Option Addr) (c : Nat) (l : List Booking) (w : World) (hC : Kd.C k25 w A l.length l) (hc : l.length ≤ c) (hl : Lim l) (h0 : (foundP l id).2.2 = 0) (h1 : 0 ≤ line) (h2 : line < ((rd_T25 l (idxB id l)).f2.length : Int)) (h3 : 0 < q) (h4 : q ≤ (rd_T33 (rd_T25 l (idxB id l)).f2 line).f2) :
    Calls Try.prog 12 #[.slice A l.length c, .int .i64 id, .int .i64 line, .int .i64 q] w (ShipPost w (shipP l id line q)) := by
  have hw0 : Below w.heap.size w (w.alloc (.cells #[.int .i64 0, .int .i64 0, .int .i64 0] 33)) := (Below.refl _ _).alloc (Nat.le_refl _) _
  have hblk : Blk (w.alloc (.cells #[.int .i64 0, .int .i64 0, .int .i64 0] 33)) w.heap.size z33 := heap_alloc_new w _
  have pf := found_any id A c l _ (Kd.C_below hC hw0) hc hl.1
  obtain ⟨r, hr⟩ : ∃ r, r = shipP l id line q := ⟨_, rfl⟩
  rw [← hr]
  obtain ⟨n, hn⟩ : ∃ n, n = l.length := ⟨_, rfl⟩
  obtain ⟨hm, i, hi, hix, hf⟩ := foundP_zero h0
  rw [hf] at pf
  simp only at pf
  unfold shipP at hr
  rw [if_pos h0, hix] at hr
  rw [hix] at h2 h4
  have hq2 : ∀ y ∈ (rd_T25 l (i : Int)).f2, y.f2 < 9223372036854775808 := by rw [rdB hi]; exact hl.2 _ (List.getElem_mem hi)
  obtain ⟨x, hx⟩ : ∃ x, x = rd_T25 l (i : Int) := ⟨_, rfl⟩
  rw [← hx] at hr hq2 h2 h4
  have hll : line.toNat < x.f2.length := by omega
  obtain ⟨j, hj⟩ : ∃ j : Nat, line = (j : Int) := ⟨line.toNat, by omega⟩
  subst hj
  rw [Int.toNat_natCast] at hll
  obtain ⟨y, hy⟩ : ∃ y, y = rd_T33 x.f2 (j : Int) := ⟨_, rfl⟩
  rw [← hy] at hr h4
  obtain ⟨ls, hls⟩ : ∃ ls, ls = x.f2.set j { y with f2 := y.f2 - q } := ⟨_, rfl⟩
  have hres : r = ((if ls.any openL = true then l.set i { x with f2 := ls } else l.eraseIdx i), { y with f2 := q }, 0) := by rw [hr, if_neg (by omega), if_neg (by omega), if_neg (by omega), hls]; rfl
  have hyq : y.f2 < 9223372036854775808 := hq2 _ (by rw [hy]; rw [show rd_T33 x.f2 (j : Int) = x.f2[j] from rdL hll]; exact List.getElem_mem hll)
  have HY := Aside0.mk (And.intro hy hls)
  clear hy hls
  have HX := Aside0.mk (And.intro hres (And.intro hm (And.intro hi (And.intro hn (And.intro hx hq2)))))
  have HW := Aside0.mk (And.intro hw0 hblk)
  rw [← hn] at pf ⊢
  have hni : i < n := by omega
  have hn8 : n ≤ 8 := by have := hm.2.2; omega
  clear hC hc hl hr h0 hm hix hf hres hn hi hw0 hblk hx hq2
  go_enter Try.func12, Try.ntmps12
  go_wp2_with fail
  go_at_call 28
  refine pf.mono ?_
  rintro e w1 ⟨v, rfl, hS, hb⟩
  have hS2 := Kd.S_mono (Kd.S_bound hS) (ok' := fun k => k < w1.heap.size ∧ w.heap.size < k) (fun k hk => ⟨hk.2.2.1, by have := hk.2.1; simp at this; omega⟩)
  obtain ⟨g, cap, hv, hbg, hgl, _⟩ := Kd.S_form hS2 (by have := HX.out.2.2.1; omega)
  subst hv
  obtain ⟨oki, cs, _, hM, hcell, hoki, hH⟩ := Kd.S_lend hS2 z25 (i : Int) (by omega) (by have := HX.out.2.2.1; omega)
  have hxe : l.getD (i : Int).toNat z25 = x := by rw [HX.out.2.2.2.2.1]; rfl
  rw [hxe] at hM
  obtain ⟨v2, rfl, hv2⟩ := k25_openM hM
  have hlen := one_len (HX.out.2.1.1 _ (List.getElem_mem HX.out.2.2.1))
  rw [← rdB HX.out.2.2.1, ← HX.out.2.2.2.2.1] at hlen
  obtain ⟨A2, c2, hv2e⟩ := Kd.R_slice hv2
  subst hv2e
  obtain ⟨g2, rfl, hbg2, hA2, hok2⟩ := ArrL.of_R hv2 (by omega)
  have hcl := hcell 2 _ rfl
  rw [Int.toNat_natCast] at hcl
  have hcl2 : w1.cell? ⟨g, i * 3 + 2, none⟩ = some (.slice (some ⟨g2, 0, none⟩) x.f2.length c2) := hcl
  have hcap : l.length ≤ cap := (Kd.S_reads' hS2).2.1
  have hblk1 : Blk w1 w.heap.size z33 := HW.out.2.below hb (by simp)
  have hb1 : Below w.heap.size w w1 := HW.out.1.trans (hb.mono (by simp))
  have HS := Aside0.mk (And.intro hH (And.intro hA2 (And.intro hok2 (And.intro hoki (And.intro hb1 (And.intro hblk1 hlen))))))
  obtain ⟨y0, y1, y2, y3, y4, y5⟩ := hblk1.cells
  rw [← HX.out.2.2.2.1]
  obtain ⟨m, hmm⟩ : ∃ m, m = x.f2.length := ⟨_, rfl⟩
  have HMM := Aside0.mk hmm
  rw [← hmm] at hcl2 h2
  have hm4 : m ≤ 4 := by omega
  have hm1 : 1 ≤ m := by omega
  have hwg : w.heap.size < g := by simp at hbg; omega
  clear hS hS2 hv2 hH hM hlen hb pf hmm hbg hcap hcell hcl hblk1 hxe hA2 hb1
  have HOB := Aside0.mk HX.out.1
  obtain ⟨c0, c1, c2', f0, f1, f2⟩ := HS.out.2.1.cells j (by have := HMM.out; omega)
  have hyy : atL x.f2 j = y := by rw [HY.out.1]; simp [atL, rd_T33]
  rw [hyy] at c0 c1 c2'
  have hg2 : g2 < w1.heap.size := HS.out.2.1.lt
  have hw2 : w.heap.size < g2 := (HS.out.2.2.2.1 g2 HS.out.2.2.1).1.2
  have hw1 : w.heap.size ≤ w1.heap.size := HS.out.2.2.2.2.1.size
  clear hyy
  go_wp2_with fail
  obtain ⟨w2, hw2'⟩ : ∃ w2 : World, w2 = w1.setCell ⟨g2, j * 3 + 2, none⟩ (.int .i64 (y.f2 - q)) := ⟨_, rfl⟩
  obtain ⟨b1, hb1⟩ : ∃ b1, b1 = w1.heap.size := ⟨_, rfl⟩
  have hz2 : w2.heap.size = b1 := by rw [hw2', hb1]; simp [World.setCell]
  have hjl : j < x.f2.length := by have := HMM.out; omega
  have k0 : Blk w2 w.heap.size z33 := by rw [hw2']; exact (Below.heap_setCell w1 ⟨g2, j * 3 + 2, none⟩ _ w.heap.size (by show w.heap.size ≠ g2; omega)).trans HS.out.2.2.2.2.2.1
  have kA : ArrL w2 g2 c2 ls := by
    rw [hw2', HY.out.2, HY.out.1, show rd_T33 x.f2 (j : Int) = x.f2[j] from rdL hjl]
    exact HS.out.2.1.setQ j hjl _
  have kH := Kd.H_step (w1 := w2) HS.out.1 (fun k _ hno _ => by rw [hw2']; exact Below.heap_setCell w1 ⟨g2, j * 3 + 2, none⟩ _ k (fun e => hno (by rw [show k = g2 from e]; exact HS.out.2.2.1)))
  have kB : Below w.heap.size w w2 := by rw [hw2']; exact HS.out.2.2.2.2.1.setCell (p := ⟨g2, j * 3 + 2, none⟩) (Nat.le_of_lt hw2) _
  obtain ⟨w3, hw3⟩ : ∃ w3 : World, w3 = w2.alloc (.cells #[.int .i64 y.f0, .int .i64 y.f1, .int .i64 q] 33) := ⟨_, rfl⟩
  have hB3 : Below w2.heap.size w2 w3 := by rw [hw3]; exact (Below.refl _ _).alloc (Nat.le_refl _) _
  have m1 : Blk w3 b1 { y with f2 := q } := by rw [hw3, ← hz2]; exact heap_alloc_new w2 _
  have m0 : Blk w3 w.heap.size z33 := k0.below hB3 (by omega)
  have mA : ArrL w3 g2 c2 ls := kA.kept (Went.of_below hB3 (fun _ => False)) (fun h => h)
  have mH := Kd.H_below kH hB3
  have mB : Below w.heap.size w w3 := kB.trans (hB3.mono (by omega))
  have hll : ls.length = m := by rw [HY.out.2, List.length_set, HMM.out]
  have hbg : (w.alloc (.cells #[.int .i64 0, .int .i64 0, .int .i64 0] 33)).heap.size ≤ g2 := by simp; omega
  have mR : k33.R 33 w3 _ oki (.slice (some ⟨g2, 0, none⟩) ls.length c2) ls := mA.to_R hbg HS.out.2.2.1
  have mS := Kd.H_back (x' := { x with f2 := ls }) mH (by rw [← HMM.out, ← hll]; exact k25_mkM _ _ _ { x with f2 := ls } mR) (fun _ h => h)
  rw [Int.toNat_natCast] at mS
  have pp := containsP_any (some ⟨g2, 0, none⟩) c2 ls w3 (Kd.R_reads' mR).2.2 (Kd.R_reads' mR).2.1
  rw [hll] at pp
  rw [← hw2', ← hw3, ← hb1]
  have hgb : g < b1 := by omega
  clear hb1
  have H3 := Aside0.mk (And.intro mS (And.intro mB (And.intro m1 (And.intro m0 m0.lt))))
  have hb1l : b1 < w3.heap.size := m1.lt
  obtain ⟨ob, hob⟩ : ∃ ob, ob = ls.any openL := ⟨_, rfl⟩
  rw [← hob] at pp
  have HOB2 := Aside0.mk hob
  clear hw2' hw3 hB3 hz2 k0 kA kH kB m1 m0 mA mH mB mR mS hll hob c0 c1 c2' f0 f1 f2 hjl hbg y0 y1 y2 y3 y4 y5 hcl2
  go_at_call 29
  refine pp.mono ?_
  rintro e w4 ⟨rfl, hb4⟩
  have S4 := Kd.S_lower (Kd.S_below H3.out.1 hb4) (base' := w.heap.size) (by simp)
  rw [← HX.out.2.2.2.1] at S4
  have B4 : Below w.heap.size w w4 := H3.out.2.1.trans (hb4.mono H3.out.2.1.size)
  have M1 := H3.out.2.2.1.below hb4 hb1l
  have M0 := H3.out.2.2.2.1.below hb4 H3.out.2.2.2.2
  have H4 := Aside0.mk (And.intro S4 (And.intro B4 (And.intro M1 M0)))
  clear pp hb4 S4 B4 M1 M0
  cases ob with
  | true =>
    have HR : Aside0 (r = (l.set i { x with f2 := ls }, { y with f2 := q }, 0)) := ⟨by rw [HX.out.1, if_pos HOB2.out.symm]⟩
    have hS6 := H4.out.1
    have hb6 := H4.out.2.1
    have hk1 := H4.out.2.2.1
    have hk0 := H4.out.2.2.2
    obtain ⟨z0, z1, z2, _, _, _⟩ := hk1.cells
    obtain ⟨u0, u1, u2, u3, u4, u5⟩ := hk0.cells
    have H6 := Aside0.mk (And.intro hS6 (And.intro hb6 (And.intro hk1 hk0)))
    clear hS6 hb6 hk1 hk0
    go_wp2
    go_region
    obtain ⟨w6, hw6⟩ : ∃ w6 : World, w6 = (((w4.setCell ⟨w.heap.size, 0, none⟩ (.int .i64 y.f0)).setCell ⟨w.heap.size, 1, none⟩ (.int .i64 y.f1)).setCell ⟨w.heap.size, 2, none⟩ (.int .i64 q)).drew := ⟨_, rfl⟩
    have hk6 : Blk w6 w.heap.size { y with f2 := q } := by rw [hw6]; exact H6.out.2.2.2.set { y with f2 := q }
    have hb6 : Below w.heap.size w w6 := by
      rw [hw6]
      exact (((H6.out.2.1.setCell (p := ⟨w.heap.size, 0, none⟩) (Nat.le_refl _) _).setCell (p := ⟨w.heap.size, 1, none⟩) (Nat.le_refl _) _).setCell (p := ⟨w.heap.size, 2, none⟩) (Nat.le_refl _) _).drew
    have hS6 : Kd.S k25 25 w6 w.heap.size (fun _ => True) (.slice (some ⟨g, 0, none⟩) n cap) r.1 := by
      rw [hw6, HR.out]
      refine Kd.S_lower (Kd.S_mono (Kd.S_drew (Kd.S_far (p := ⟨w.heap.size, 2, none⟩) (Kd.S_far (p := ⟨w.heap.size, 1, none⟩) (Kd.S_far (p := ⟨w.heap.size, 0, none⟩) H6.out.1 (fun k hk => Nat.ne_of_gt hk.2) _) (fun k hk => Nat.ne_of_gt hk.2) _) (fun k hk => Nat.ne_of_gt hk.2) _)) (fun _ _ => trivial)) (by simp)
    rw [← hw6]
    go_wp2
    refine bodyPost_ret (v := .tuple #[(.slice (some ⟨g, 0, none⟩) n cap), .agg #[.int .i64 y.f0, .int .i64 y.f1, .int .i64 q], .int .i64 0]) ?_ rfl ?_
    · simp [results, Try.results12, Sem.run_bind]
      exact hk6.result _ _
    · exact ⟨_, by rw [HR.out], hS6, hb6⟩
  | false =>
    have HR : Aside0 (r = (l.eraseIdx i, { y with f2 := q }, 0)) := ⟨by rw [HX.out.1, if_neg (by rw [← HOB2.out]; simp)]⟩
    have pd := delete_S (w0 := w) _ _ i w.heap.size H4.out.1 (by rw [List.length_set]; exact HX.out.2.2.1) H4.out.2.1
    have ei : ((i + 1 : Nat) : Int) = (i : Int) + 1 := by omega
    have ee : (l.set i { x with f2 := ls }).eraseIdx i = l.eraseIdx i := List.eraseIdx_set_eq
    rw [ei, ee] at pd
    clear ei ee
    go_wp2_with fail
    go_at_call 31
    refine pd.mono ?_
    rintro e w5 ⟨v5, rfl, hv5, hb5, hg5⟩
    have M1 : Blk w5 b1 { y with f2 := q } := (hg5.block b1 H4.out.2.2.1.lt (fun e => absurd (show b1 = g by simpa [Value.ownBlock] using e) (by omega))).trans H4.out.2.2.1
    have M0 : Blk w5 w.heap.size z33 := (hg5.block w.heap.size H4.out.2.2.2.lt (fun e => absurd (show w.heap.size = g by simpa [Value.ownBlock] using e) (by omega))).trans H4.out.2.2.2
    have H5 := Aside0.mk (And.intro hv5 (And.intro hb5 (And.intro M1 M0)))
    clear pd hv5 hb5 hg5 M1 M0
    have hS6 := H5.out.1
    have hb6 := H5.out.2.1
    have hk1 := H5.out.2.2.1
    have hk0 := H5.out.2.2.2
    obtain ⟨z0, z1, z2, _, _, _⟩ := hk1.cells
    obtain ⟨u0, u1, u2, u3, u4, u5⟩ := hk0.cells
    have H6 := Aside0.mk (And.intro hS6 (And.intro hb6 (And.intro hk1 hk0)))
    clear hS6 hb6 hk1 hk0
    go_wp2
    go_region
    obtain ⟨w6, hw6⟩ : ∃ w6 : World, w6 = (((w5.setCell ⟨w.heap.size, 0, none⟩ (.int .i64 y.f0)).setCell ⟨w.heap.size, 1, none⟩ (.int .i64 y.f1)).setCell ⟨w.heap.size, 2, none⟩ (.int .i64 q)).drew := ⟨_, rfl⟩
    have hk6 : Blk w6 w.heap.size { y with f2 := q } := by rw [hw6]; exact H6.out.2.2.2.set { y with f2 := q }
    have hb6 : Below w.heap.size w w6 := by
      rw [hw6]
      exact (((H6.out.2.1.setCell (p := ⟨w.heap.size, 0, none⟩) (Nat.le_refl _) _).setCell (p := ⟨w.heap.size, 1, none⟩) (Nat.le_refl _) _).setCell (p := ⟨w.heap.size, 2, none⟩) (Nat.le_refl _) _).drew
    have hS6 : Kd.S k25 25 w6 w.heap.size (fun _ => True) v5 r.1 := by
      rw [hw6, HR.out]
      refine Kd.S_lower (Kd.S_mono (Kd.S_drew (Kd.S_far (p := ⟨w.heap.size, 2, none⟩) (Kd.S_far (p := ⟨w.heap.size, 1, none⟩) (Kd.S_far (p := ⟨w.heap.size, 0, none⟩) H6.out.1 (fun k hk => Nat.ne_of_gt hk.2) _) (fun k hk => Nat.ne_of_gt hk.2) _) (fun k hk => Nat.ne_of_gt hk.2) _)) (fun _ _ => trivial)) (by simp)
    rw [← hw6]
    go_wp2
    refine bodyPost_ret (v := .tuple #[v5, .agg #[.int .i64 y.f0, .int .i64 y.f1, .int .i64 q], .int .i64 0]) ?_ rfl ?_
    · simp [results, Try.results12, Sem.run_bind]
      exact hk6.result _ _
    · exact ⟨_, by rw [HR.out], hS6, hb6⟩
end Go.Proofs.Ytjhdjkanepdgiaa.Book
