/- Where a spot stands; a spot; stocks with another spot: the walks. No conditions beside those that each contract states. -/
import Derived.Test.YtkhghabenhhhaaaStockPut
import Derived.Lib.SliceRun
namespace Go.Proofs.Ytkhghabenhhhaaa.Stock
open Go.RowKit Go.Proofs.Ytkhghabenhhhaaa.Pa Go.Proofs.YtkhghabenhhhaaaW.PrintWords Go.Proofs.YtkhghabenhhhaaaW.PrintLast Go.Proofs.YtkhghabenhhhaaaW.PrintMore Go.Proofs.Ytkhghabenhhhaaa.Sl
set_option linter.unusedVariables false
set_option linter.unusedSimpArgs false

theorem infoE37 : (Try.prog.info? 37).map (fun i => (i.zero, i.size, i.bytes)) = some (some (.agg #[.int .i64 0, .int .i64 0, .int .i64 0, .int .i64 0]), 4, 32) := by kernel_rfl
theorem R_empty {α : Type} (d : Kd α) (e : Nat) (w : World) : d.R e (w.alloc (.cells #[] e)) w.heap.size (fun _ => True) (.slice (some ⟨w.heap.size, 0, none⟩) 0 0) [] :=
  ⟨fun _ _ => trivial, [], ⟨by simp, .inr ⟨w.heap.size, 0, #[], rfl, Nat.le_refl _, heap_alloc_new w _, Nat.le_refl _, by simp [maxLen], by simp, by simp⟩⟩, Reps.none _ _⟩
set_option maxRecDepth 100000 in
set_option maxHeartbeats 2000000 in
theorem clone_any37 (A0 : Option Addr) (c0 : Nat) (l0 : List Spot) (w : World) (hr0 : Kd.C k37 w A0 l0.length l0) (hc0 : l0.length ≤ c0) (hl : l0.length * 32 ≤ 140737488355328) :
    Calls Try.prog 52 #[.slice A0 l0.length c0] w fun e w' => ∃ v, e = .returned v ∧ Kd.R k37 37 w' w.heap.size (fun _ => True) v l0 ∧ Below w.heap.size w w' := by
  have HR := Aside0.mk hr0
  have HL := Aside0.mk hl
  cases A0 with
  | none =>
    have he : l0 = [] := by
      cases l0 with
      | nil => rfl
      | cons x r => obtain ⟨ad, h, _⟩ := hr0.2.2 (by simp); cases h
    subst he
    clear hr0 hl
    have kn := fun (w : World) (a : Option Addr) (n c : Nat) => Lib.run_eql_slice_nil (P := Try.prog) w 22 37 a n c 0 0 Try.underlying22
    go_enter Try.func52, Try.ntmps52
    go_wp2
    go_ret
    exact ⟨_, rfl, Kd.R_nil _ _ _ _ _, Below.refl _ _⟩
  | some ad =>
    clear hr0 hl
    have kn := fun (w : World) (a : Option Addr) (n c : Nat) => Lib.run_eql_slice_nil (P := Try.prog) w 22 37 a n c 0 0 Try.underlying22
    go_enter Try.func52, Try.ntmps52
    go_wp2_with ((with_reducible refine gate_builtin (b := .append) (xs := #[.tmp 5, .tmp 6]) rfl ?_); at_builtin; refine Kd.R_append_rows k37 (w0 := w) w.heap.size rfl (.tmp 5) (.tmp 6) 22 37 (.agg #[.int .i64 0, .int .i64 0, .int .i64 0, .int .i64 0]) 32 rfl Try.underlying22 infoE37 rfl (by decide) (by omega) _ [] l0 _ _ _ (fun _ => True) (fun _ => False) rfl rfl ?aO ?aR (fun _ _ h => h) (fun _ h => h.elim) ?aF ?aB ?aS ?aL ?_; (case aF => exact fun _ _ => trivial); (case aO => exact R_empty _ _ _); (case aR => exact Kd.C_alloc HR.out _); (case aB => exact below_alloc (Below.refl _ _) _); (case aS => simp); (case aL => have := HL.out; simp; omega); intro v1 w2 ho hb hg hat; have HO := Aside0.mk ho; have HB2 := Aside0.mk hb; clear ho hb hg hat)
    go_ret
    exact ⟨_, rfl, HO.out, HB2.out⟩


/-! #### Cells -/
def cells4 (x : Spot) : List Value := [.int .i64 x.f0, .int .i64 x.f1, .int .i64 x.f2, .int .i64 x.f3]
def flat (l : List Spot) : List Value := l.flatMap cells4
theorem flat_length (l : List Spot) : (flat l).length = l.length * 4 := by
  unfold flat
  induction l with
  | nil => rfl
  | cons x r ih => rw [List.flatMap_cons, List.length_append, ih, List.length_cons]; simp [cells4]; omega
theorem flat_append (a b : List Spot) : flat (a ++ b) = flat a ++ flat b := by simp [flat]
theorem flat_take : ∀ (l : List Spot) (i : Nat), (flat l).take (i * 4) = flat (l.take i)
  | [], i => by simp [flat]
  | x :: r, 0 => by simp [flat]
  | x :: r, i + 1 => by
    have ih := flat_take r i
    show (cells4 x ++ flat r).take ((i + 1) * 4) = cells4 x ++ flat (r.take i)
    rw [← ih, show (i + 1) * 4 = (cells4 x).length + i * 4 by simp [cells4]; omega, List.take_length_add_append]
theorem flat_drop : ∀ (l : List Spot) (i : Nat), (flat l).drop (i * 4) = flat (l.drop i)
  | [], i => by simp [flat]
  | x :: r, 0 => by simp [flat]
  | x :: r, i + 1 => by
    have ih := flat_drop r i
    show (cells4 x ++ flat r).drop ((i + 1) * 4) = flat (r.drop i)
    rw [← ih, show (i + 1) * 4 = (cells4 x).length + i * 4 by simp [cells4]; omega, List.drop_length_add_append]
theorem flat_one (l : List Spot) : ∀ u ∈ flat l, u.oneCell' = true := by
  intro u hu
  obtain ⟨x, _, hu⟩ := List.mem_flatMap.1 hu
  simp only [cells4, List.mem_cons, List.not_mem_nil, or_false] at hu
  rcases hu with rfl | rfl | rfl | rfl <;> rfl
theorem flat_get {l : List Spot} {j : Nat} (h : j < l.length) (k : Nat) (hk : k < 4) : (flat l)[j * 4 + k]? = (cells4 l[j])[k]? := by
  have e : flat l = flat (l.take j) ++ (cells4 l[j] ++ flat (l.drop (j + 1))) := by
    conv => lhs; rw [← List.take_append_drop j l, List.drop_eq_getElem_cons h]
    rw [flat_append]
    rfl
  have hl : (flat (l.take j)).length = j * 4 := by rw [flat_length, List.length_take]; omega
  rw [e, List.getElem?_append_right (by omega), hl, Nat.add_sub_cancel_left, List.getElem?_append_left (by simp [cells4]; omega)]
theorem R_flat {W : World} {base : Nat} {ok : Nat → Prop} {v : Value} {l : List Spot} (h : k37.R 37 W base ok v l) : W.ownsRow base 37 4 v l.length (flat l) := by
  obtain ⟨_, inner, ho, hr⟩ := h
  have : inner = flat l := by
    apply List.ext_getElem?
    intro p
    have hl : inner.length = l.length * 4 := hr.1
    rcases Nat.lt_or_ge p (l.length * 4) with hp | hp
    · have hj : p / 4 < l.length := by omega
      have h2 := hr.2 (p / 4) l[p / 4] (List.getElem?_eq_getElem hj)
      have h3 := k37_openM h2
      have h4 := flat_get hj (p % 4) (Nat.mod_lt _ (by decide))
      rw [show p / 4 * 4 + p % 4 = p by omega] at h4
      rw [h4, ← show [Value.int .i64 l[p / 4].f0, .int .i64 l[p / 4].f1, .int .i64 l[p / 4].f2, .int .i64 l[p / 4].f3] = cells4 l[p / 4] from rfl, ← h3]
      rw [show k37.sz = 4 from rfl, List.getElem?_take, if_pos (Nat.mod_lt _ (by decide)), List.getElem?_drop, show p / 4 * 4 + p % 4 = p by omega]
    · rw [List.getElem?_eq_none (by omega), List.getElem?_eq_none (by rw [flat_length]; omega)]
  rw [← this]
  exact ho
theorem reps_flat (W : World) (base : Nat) (ok : Nat → Prop) (l : List Spot) : Reps (k37.M W base ok) 4 l (flat l) := by
  refine ⟨flat_length l, fun j p hj => ?_⟩
  obtain ⟨hjl, rfl⟩ := List.getElem?_eq_some_iff.1 hj
  have e : ((flat l).drop (j * 4)).take 4 = cells4 l[j] := by
    rw [flat_drop, List.drop_eq_getElem_cons hjl]
    show (cells4 l[j] ++ flat (l.drop (j + 1))).take 4 = _
    rw [List.take_append_of_le_length (by simp [cells4]), List.take_of_length_le (by simp [cells4])]
  rw [e]
  exact k37_mkM W base ok _
theorem flat_R {W : World} {base : Nat} {v : Value} {l : List Spot} (h : W.ownsRow base 37 4 v l.length (flat l)) : k37.R 37 W base (fun _ => True) v l :=
  ⟨fun _ _ => trivial, flat l, h, reps_flat _ _ _ _⟩
/-! #### Insert, Delete over spots -/
theorem own_of {W : World} {base n m : Nat} {v : Value} {xs ys : List Value} (h : W.ownsRow base 37 4 v n xs) (hn : n = m) (hx : xs = ys) : W.ownsRow base 37 4 v m ys := by subst hn hx; exact h
theorem insert_spot {w0 w : World} (v : Value) (l : List Spot) (i b : Nat) (s : Spot) (base : Nat) {ok : Nat → Prop} (hR : k37.R 37 w base ok v l) (hb : w.heap[b]? = some (.cells #[.int .i64 s.f0, .int .i64 s.f1, .int .i64 s.f2, .int .i64 s.f3] 37 (0, 0))) (hi : i ≤ l.length) (hl : l.length ≤ 64) (hbase : base ≤ w.heap.size) (hne : v.ownBlock ≠ some b) (hB : Below base w0 w) :
    Calls Try.prog 54 #[v, .int .i64 i, .slice (some ⟨b, 0, none⟩) 1 1] w fun e w' => ∃ v', e = .returned v' ∧ k37.R 37 w' base (fun _ => True) v' (l.take i ++ (s :: l.drop i)) ∧ Below base w0 w' := by
  have ho := R_flat hR
  have hlen : (l.take i ++ (s :: l.drop i)).length = l.length + 1 := by rw [List.length_append, List.length_cons, List.length_take, List.length_drop]; omega
  have hcells : flat (l.take i ++ (s :: l.drop i)) = (flat l).take (i * 4) ++ cells4 s ++ (flat l).drop (i * 4) := by
    rw [flat_append, flat_take, flat_drop, List.append_assoc]; rfl
  have hsrc : ∀ j u, (cells4 s)[j]? = some u → w.cell? ⟨b, j, none⟩ = some u := fun j u hj => by rw [cell_of_row _ _ _ _ _ _ hb]; simpa [cells4] using hj
  have hone : ∀ u ∈ cells4 s, u.oneCell' = true := by
    intro u hu
    simp only [cells4, List.mem_cons, List.not_mem_nil, or_false] at hu
    rcases hu with rfl | rfl | rfl | rfl <;> rfl
  rcases Nat.lt_or_ge i l.length with hlt | hge
  · obtain ⟨A, c, rfl⟩ := own_slice ho
    obtain ⟨g, rfl, hbg, hrow⟩ := Rowed.of_own ho (by omega)
    obtain ⟨m, hm⟩ : ∃ m, l.length = i + 1 + m := ⟨l.length - i - 1, by omega⟩
    rw [hm] at hrow hlen ⊢
    have hgb : b ≠ g := fun e => hne (by subst e; rfl)
    have hroomc := hrow.room
    rcases Nat.lt_or_ge (i + 1 + m) c with hc | hc
    · refine (insert_room37 g c i m b (flat l) (cells4 s) w hrow (flat_one l) hb rfl hone hgb (by omega)).mono ?_
      rintro e w' ⟨rfl, hr, hw⟩
      refine ⟨_, rfl, flat_R (own_of (hr.own hbg) hlen.symm hcells.symm), hw.below hB hbase (fun k hk => by subst hk; exact hbg)⟩
    · obtain rfl : c = i + 1 + m := by omega
      refine (insert_grow37 g i m b (flat l) (cells4 s) w hrow (flat_one l) hb rfl hone (by omega)).mono ?_
      rintro e w' ⟨G, rfl, hr, hw⟩
      exact ⟨_, rfl, flat_R (own_of (hr.own hbase) hlen.symm hcells.symm), below_then hB hbase hw⟩
  · obtain rfl : i = l.length := by omega
    refine (insert_end37 v l.length b (flat l) (cells4 s) base w ho rfl hsrc hone (by omega) hbase).mono ?_
    rintro e w' ⟨v', rfl, hr, hg⟩
    refine ⟨v', rfl, flat_R (own_of hr hlen.symm ?_), pw_below_grown hB _ hbase hg (own_base ho)⟩
    rw [hcells, List.take_of_length_le (by rw [flat_length]; omega), List.drop_of_length_le (by rw [flat_length]; omega), List.append_nil]
theorem delete_spot {w0 w : World} (v : Value) (l : List Spot) (i : Nat) (base : Nat) {ok : Nat → Prop} (hR : k37.R 37 w base ok v l) (hi : i < l.length) (hbase : base ≤ w.heap.size) (hB : Below base w0 w) :
    Calls Try.prog 53 #[v, .int .i64 i, .int .i64 (i + 1 : Nat)] w fun e w' => ∃ v', e = .returned v' ∧ k37.R 37 w' base (fun _ => True) v' (l.take i ++ l.drop (i + 1)) ∧ Below base w0 w' := by
  have ho := R_flat hR
  obtain ⟨A, c, rfl⟩ := own_slice ho
  obtain ⟨g, rfl, hbg, hrow⟩ := Rowed.of_own ho (by omega)
  obtain ⟨m, hm⟩ : ∃ m, l.length = i + 1 + m := ⟨l.length - i - 1, by omega⟩
  rw [hm] at hrow ⊢
  refine (delete_any37 g c i m (flat l) w hrow (flat_one l)).mono ?_
  rintro e w' ⟨rfl, hr, hw⟩
  refine ⟨_, rfl, flat_R (own_of (hr.own hbg) ?_ ?_), hw.below hB hbase (fun k hk => by subst hk; exact hbg)⟩
  · rw [List.length_append, List.length_take, List.length_drop]; omega
  · rw [flat_append, flat_take, flat_drop]
/-! #### find, at -/
set_option maxRecDepth 100000 in
set_option maxHeartbeats 8000000 in
theorem find_any (A : Option Addr) (c : Nat) (l : List Spot) (sku loc : Int) (w : World) (hC : Kd.C k37 w A l.length l) (hl : l.length ≤ 1099511627776) :
    Calls Try.prog 49 #[.slice A l.length c, .int .i64 sku, .int .i64 loc] w (SPost w l sku loc) := by
  have p := search_any A c l sku loc w hC hl
  clear hC hl
  go_enter Try.func49, Try.ntmps49
  go_wp2_with (go_at_call 55; refine p.mono ?_; rintro e w1 ⟨i, rfl, hf, hb⟩; have HX := Aside0.mk (And.intro hf hb); clear hf hb p)
  go_ret2
  exact ⟨i, rfl, HX.out.1, HX.out.2⟩
theorem set4 {w1 : World} {b : Nat} {a0 a1 a2 a3 : Value} {e : TypeId} (h : w1.heap[b]? = some (.cells #[a0, a1, a2, a3] e (0, 0))) (x0 x1 x2 x3 : Value) :
    ((((w1.setCell ⟨b, 0, none⟩ x0).setCell ⟨b, 1, none⟩ x1).setCell ⟨b, 2, none⟩ x2).setCell ⟨b, 3, none⟩ x3).heap[b]? = some (.cells #[x0, x1, x2, x3] e (0, 0)) :=
  blk_set (blk_set (blk_set (blk_set h 0 x0) 1 x1) 2 x2) 3 x3
theorem cells_of4 {W : World} {b : Nat} {x0 x1 x2 x3 : Value} {e : TypeId} (h : W.heap[b]? = some (.cells #[x0, x1, x2, x3] e (0, 0))) : W.cell? ⟨b, 0, none⟩ = some x0 ∧ W.cell? ⟨b, 1, none⟩ = some x1 ∧ W.cell? ⟨b, 2, none⟩ = some x2 ∧ W.cell? ⟨b, 3, none⟩ = some x3 ∧ W.frozen? ⟨b, 0, none⟩ = false ∧ W.frozen? ⟨b, 1, none⟩ = false ∧ W.frozen? ⟨b, 2, none⟩ = false ∧ W.frozen? ⟨b, 3, none⟩ = false :=
  ⟨by rw [cell_of_row _ _ _ _ _ _ h]; rfl, by rw [cell_of_row _ _ _ _ _ _ h]; rfl, by rw [cell_of_row _ _ _ _ _ _ h]; rfl, by rw [cell_of_row _ _ _ _ _ _ h]; rfl, by simp [World.frozen?, h], by simp [World.frozen?, h], by simp [World.frozen?, h], by simp [World.frozen?, h]⟩
/-- What 'at' leaves. -/
def AtPost (w : World) (x : Spot) (e : Ending) (w' : World) : Prop := e = .returned (.agg #[.int .i64 x.f0, .int .i64 x.f1, .int .i64 x.f2, .int .i64 x.f3]) ∧ Below w.heap.size w w'
set_option maxRecDepth 100000 in
set_option maxHeartbeats 8000000 in
theorem at_any (A : Option Addr) (c : Nat) (l : List Spot) (sku loc : Int) (w : World) (hC : Kd.C k37 w A l.length l) (h : May l) (h0 : -9223372036854775808 ≤ sku) (h1 : sku < 9223372036854775808) (h2 : -9223372036854775808 ≤ loc) (h3 : loc < 9223372036854775808) :
    Calls Try.prog 35 #[.slice A l.length c, .int .i64 sku, .int .i64 loc] w (AtPost w (getS l sku loc)) := by
  have hl := h.length
  have hw0 : Below w.heap.size w (w.alloc (.cells #[.int .i64 0, .int .i64 0, .int .i64 0, .int .i64 0] 37)) := (Below.refl _ _).alloc (Nat.le_refl _) _
  have p := find_any A c l sku loc _ (Kd.C_below hC hw0) (by omega)
  obtain ⟨n, hn⟩ : ∃ n, n = l.length := ⟨_, rfl⟩
  have HX := Aside0.mk (And.intro hC (And.intro h (And.intro (And.intro h0 h1) (And.intro (And.intro h2 h3) hn))))
  have HW := Aside0.mk hw0
  rw [← hn] at p ⊢
  have hn64 : n ≤ 64 := by omega
  clear hC h h0 h1 h2 h3 hl hw0 hn
  go_enter Try.func35, Try.ntmps35
  go_wp2_with fail
  go_at_call 49
  refine p.mono ?_
  rintro e w1 ⟨i, rfl, hf, hb⟩
  obtain ⟨hC, hM, ⟨h0, h1⟩, ⟨h2, h3⟩, hn⟩ := HX.out
  have hget := hf.at_ hM h0 h1 h2 h3
  have hbl := below_then HW.out (by simp) hb
  have hil := hf.le
  have hlt : foundB l sku loc i = true → i < n := fun h => by rw [hn]; exact (foundB_iff.1 h).1
  have hcl := hb.size
  have HY := Aside0.mk (And.intro hget (And.intro hbl (And.intro hil hlt)))
  have k0 := (hb.block w.heap.size (by simp)).trans (heap_alloc_new w _)
  obtain ⟨bb, hbb⟩ : ∃ bb, bb = foundB l sku loc i := ⟨_, rfl⟩
  rw [← hbb]
  have HBB := Aside0.mk hbb
  obtain ⟨z0, z1, z2, z3, y0, y1, y2, y3⟩ := cells_of4 k0
  have HK := Aside0.mk k0
  clear p hf hb hC hM h0 h1 h2 h3 hn hget hbl hil hlt hcl k0 hbb
  cases bb with
  | true =>
    have hlt := HY.out.2.2.2 HBB.out.symm
    obtain ⟨ad, rfl, c0, c1, c2, c3⟩ := at_T37 (Kd.C_below HX.out.1 HY.out.2.1) (i : Int) (by omega) (by rw [← HX.out.2.2.2.2]; omega)
    rw [Int.toNat_natCast] at c0 c1 c2 c3
    have hx : getS l sku loc = rd_T37 l (i : Int) := by rw [HY.out.1, ← HBB.out]; rfl
    generalize rd_T37 l (i : Int) = x at c0 c1 c2 c3 hx
    have HG := Aside0.mk hx
    clear hx
    go_wp2
    have hbl := HY.out.2.1
    obtain ⟨e0, e1, e2, e3, _, _, _, _⟩ := cells_of4 (set4 HK.out (.int .i64 x.f0) (.int .i64 x.f1) (.int .i64 x.f2) (.int .i64 x.f3))
    exact bodyPost_ret (v := .agg #[.int .i64 x.f0, .int .i64 x.f1, .int .i64 x.f2, .int .i64 x.f3]) (by simp [results, Try.results35, go_sem, e0, e1, e2, e3]) rfl ⟨(congrArg (fun t : Spot => Ending.returned (.agg #[.int .i64 t.f0, .int .i64 t.f1, .int .i64 t.f2, .int .i64 t.f3])) HG.out).symm, (((hbl.setCell (p := ⟨w.heap.size, 0, none⟩) (Nat.le_refl _) _).setCell (p := ⟨w.heap.size, 1, none⟩) (Nat.le_refl _) _).setCell (p := ⟨w.heap.size, 2, none⟩) (Nat.le_refl _) _).setCell (p := ⟨w.heap.size, 3, none⟩) (Nat.le_refl _) _⟩
  | false =>
    have hx : getS l sku loc = noS sku loc := by rw [HY.out.1, ← HBB.out]; rfl
    have HG := Aside0.mk hx
    clear hx
    go_wp2
    have hbl := HY.out.2.1
    obtain ⟨e0, e1, e2, e3, _, _, _, _⟩ := cells_of4 (set4 HK.out (.int .i64 sku) (.int .i64 loc) (.int .i64 0) (.int .i64 0))
    exact bodyPost_ret (v := .agg #[.int .i64 sku, .int .i64 loc, .int .i64 0, .int .i64 0]) (by simp [results, Try.results35, go_sem, e0, e1, e2, e3]) rfl ⟨(congrArg (fun t : Spot => Ending.returned (.agg #[.int .i64 t.f0, .int .i64 t.f1, .int .i64 t.f2, .int .i64 t.f3])) HG.out).symm, (((hbl.setCell (p := ⟨w.heap.size, 0, none⟩) (Nat.le_refl _) _).setCell (p := ⟨w.heap.size, 1, none⟩) (Nat.le_refl _) _).setCell (p := ⟨w.heap.size, 2, none⟩) (Nat.le_refl _) _).setCell (p := ⟨w.heap.size, 3, none⟩) (Nat.le_refl _) _⟩
end Go.Proofs.Ytkhghabenhhhaaa.Stock
