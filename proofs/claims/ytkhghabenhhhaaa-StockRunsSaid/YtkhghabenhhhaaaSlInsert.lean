/- slices.Insert of one element, cell by cell. No conditions beside those that the contracts state. -/
import Derived.Test.YtkhghabenhhhaaaSlDelete
import Derived.Lib.Overlaps
import Derived.Laws.Externs
import Derived.IntWalk
import Derived.Lib.AppendZerosOnto
namespace Go.Proofs.Ytkhghabenhhhaaa.Sl
open Go.RowKit Go.Proofs.YtkhghabenhhhaaaW.PrintWords Go.Proofs.YtkhghabenhhhaaaW.PrintLast Go.Proofs.YtkhghabenhhhaaaW.PrintMore
set_option linter.unusedVariables false
set_option linter.unusedSimpArgs false

theorem infoF37 : (Try.prog.info? 37).map (fun i => (i.zero, i.size, i.bytes)) = some (some (.agg #[.int .i64 0, .int .i64 0, .int .i64 0, .int .i64 0]), 4, 32) := by kernel_rfl
set_option maxRecDepth 100000 in
set_option maxHeartbeats 8000000 in
/-- At the end. -/
theorem insert_end37 (sv : Value) (n b : Nat) (xs ys : List Value) (base : Nat) (w : World) (ho : w.ownsRow base 37 4 sv n xs) (hy : ys.length = 4) (hys : ∀ j u, ys[j]? = some u → w.cell? ⟨b, j, none⟩ = some u) (h1 : ∀ u ∈ ys, u.oneCell' = true) (hn : n ≤ 1099511627776) (hbase : base ≤ w.heap.size) :
    Calls Try.prog 54 #[sv, .int .i64 n, .slice (some ⟨b, 0, none⟩) 1 1] w fun e w' => ∃ v', e = .returned v' ∧ w'.ownsRow base 37 4 v' (n + 1) (xs ++ ys) ∧ w.grownBy w' sv.ownBlock := by
  obtain ⟨A, c, rfl⟩ := own_slice ho
  obtain ⟨i0, hi0, hz0, hz1, hz2⟩ := info_parts infoF37
  have hnc : n ≤ c := by
    rcases ho.2 with ⟨e, h0⟩ | ⟨g, cap, cur, e, _, _, h, _⟩
    · omega
    · injection e with e1 e2 e3; omega
  have hmax : c ≤ 9223372036854775807 := by
    rcases ho.2 with ⟨e, h0⟩ | ⟨g, cap, cur, e, _, _, h, h2, _⟩
    · injection e with e1 e2 e3; omega
    · injection e with e1 e2 e3; unfold maxLen at h2; omega
  obtain ⟨ob, hob⟩ : ∃ ob, ob = (Value.slice A n c).ownBlock := ⟨_, rfl⟩
  rw [← hob]
  have HOB := Aside0.mk hob
  clear hob
  have HO := Aside0.mk (And.intro ho (And.intro hy (And.intro hys (And.intro h1 hbase))))
  have f1 : (n : Int) ≤ (c : Int) := by omega
  have f2 : (n : Int) ≤ 1099511627776 := by omega
  have f3 : (c : Int) ≤ 9223372036854775807 := by omega
  clear ho hy hys h1 hbase hnc hmax
  go_enter Try.func54, Try.ntmps54
  go_wp2_with ((with_reducible refine gate_builtin (b := .append) (xs := #[.tmp 23, .tmp 24]) rfl ?_); at_builtin; refine wpList_append_own _ rfl (.tmp 23) (.tmp 24) 22 rfl base 37 i0 (.agg #[.int .i64 0, .int .i64 0, .int .i64 0, .int .i64 0]) 4 32 Try.underlying22 hi0 hz0 hz1 hz2 rfl (by decide) (.slice A n c) n xs rfl HO.out.1 ⟨b, 0, none⟩ 1 1 ys rfl (by rw [HO.out.2.1]) (fun j u hj => by rw [add_plain]; exact HO.out.2.2.1 j u hj) HO.out.2.2.2.1 (by unfold maxLen; omega) (by omega) HO.out.2.2.2.2 ?_; intro v' w1 hown hg _; rw [← HOB.out] at hg; have HY := Aside0.mk (And.intro hown hg); clear hown hg)
  all_goals (go_ret; exact ⟨_, rfl, HY.out.1, HY.out.2⟩)
set_option maxRecDepth 100000 in
set_option maxHeartbeats 8000000 in
/-- Ahead of some, with room. -/
theorem insert_room37 (g cap i m b : Nat) (xs ys : List Value) (w : World) (h : Rowed 37 4 w g cap (i + 1 + m) xs) (hx : ∀ u ∈ xs, u.oneCell' = true) (hb : w.heap[b]? = some (.cells ys.toArray 37 (0, 0))) (hy : ys.length = 4) (h1 : ∀ u ∈ ys, u.oneCell' = true) (hne : b ≠ g) (hroom : i + 1 + m + 1 ≤ cap) :
    Calls Try.prog 54 #[.slice (some ⟨g, 0, none⟩) (i + 1 + m) cap, .int .i64 i, .slice (some ⟨b, 0, none⟩) 1 1] w fun e w' => e = .returned (.slice (some ⟨g, 0, none⟩) (i + 1 + m + 1) cap) ∧ Rowed 37 4 w' g cap (i + 1 + m + 1) (xs.take (i * 4) ++ ys ++ xs.drop (i * 4)) ∧ Went (fun k => k = g) w w' := by
  obtain ⟨i0, hi0, hz0, hz1, hz2⟩ := info_parts infoF37
  have hsz : (Try.prog.info? 37).map (·.size) = some 4 := by rw [hi0]; simp [hz1]
  obtain ⟨_, hmax⟩ := h.room
  have hxl := h.1
  obtain ⟨cs, hcs⟩ : ∃ cs, cs = xs.drop (i * 4) := ⟨_, rfl⟩
  have hcl : cs.length = (m + 1) * 4 := by rw [hcs, List.length_drop, hxl]; omega
  have hd : Rowed 37 4 w.drew g cap (i + 1 + m) xs := h
  have hcp1 : ∀ ty, (Builtin.copy_ #[22, 22] ty #[.slice (some ⟨g, (i + 1) * 4, none⟩) (m + 1) (cap - (i + 1)), .slice (some ⟨g, i * 4, none⟩) (m + 1 + 1) (cap - i)]).run Try.prog w.drew = .ok (goInt (Nat.min (m + 1 + 1) (m + 1))) (w.drew.setCells g ((i + 1) * 4) cs) := fun ty =>
    run_copy_any w.drew 22 22 ty 37 g ((i + 1) * 4) (m + 1) (cap - (i + 1)) ⟨g, i * 4, none⟩ (m + 1 + 1) (cap - i) 4 cs Try.underlying22 hsz (by rw [hcl, show Nat.min (m + 1 + 1) (m + 1) = m + 1 from Nat.min_eq_right (by omega)])
      (fun j v hj => by rw [add_at]; rw [hcs, List.getElem?_drop] at hj; exact (hd.cell hj).1) (fun j hj => (hd.has (by omega)).1) (fun j hj => (hd.has (by omega)).2) (fun v hv => hx v (List.mem_of_mem_drop (hcs ▸ hv)))
  obtain ⟨W1, hW1⟩ : ∃ W1, W1 = w.drew.setCells g ((i + 1) * 4) cs := ⟨_, rfl⟩
  rw [← hW1] at hcp1
  have hw1 : Went (fun k => k = g) w W1 := by rw [hW1]; exact (Went.refl _ w).drew.trans (setCells_went g _ _ w.drew) (fun _ h => h) (fun _ h => .inl h)
  have r1 : Rowed 37 4 W1 g cap (i + 1 + m + 1) (xs.take ((i + 1) * 4) ++ cs) := by
    rw [hW1]
    refine hd.stored (i + 1) (m + 1) (i + 1 + m + 1) cs hcl (by omega) hroom _ (by rw [List.length_append, List.length_take, hxl, hcl]; omega) (fun cur hcur hcl2 => ?_)
    have e1 : cur.take ((i + 1) * 4) = xs.take ((i + 1) * 4) := by rw [← hcur, List.take_take, Nat.min_eq_left (by omega)]
    rw [e1, List.take_append_of_le_length (by rw [List.length_append, List.length_take, hxl, hcl]; omega), List.take_of_length_le (by rw [List.length_append, List.length_take, hxl, hcl]; omega)]
  have hb1 : W1.heap[b]? = some (.cells ys.toArray 37 (0, 0)) := hw1.block hb (fun e => hne e)
  have hcp2 : ∀ ty, (Builtin.copy_ #[22, 22] ty #[.slice (some ⟨g, i * 4, none⟩) (m + 1 + 1) (cap - i), .slice (some ⟨b, 0, none⟩) 1 1]).run Try.prog W1 = .ok (goInt (Nat.min 1 (m + 1 + 1))) (W1.setCells g (i * 4) ys) := fun ty =>
    run_copy_any W1 22 22 ty 37 g (i * 4) (m + 1 + 1) (cap - i) ⟨b, 0, none⟩ 1 1 4 ys Try.underlying22 hsz (by rw [hy, show Nat.min 1 (m + 1 + 1) = 1 from Nat.min_eq_left (by omega)])
      (fun j v hj => by rw [add_plain, cell_of_row _ _ _ _ _ _ hb1]; simpa using hj) (fun j hj => (r1.has (by omega)).1) (fun j hj => (r1.has (by omega)).2) h1
  obtain ⟨W2, hW2⟩ : ∃ W2, W2 = W1.setCells g (i * 4) ys := ⟨_, rfl⟩
  rw [← hW2] at hcp2
  have hw2 : Went (fun k => k = g) w W2 := by rw [hW2]; exact hw1.trans (setCells_went g _ _ W1) (fun _ h => h) (fun _ h => .inl h)
  have r2 : Rowed 37 4 W2 g cap (i + 1 + m + 1) (xs.take (i * 4) ++ ys ++ cs) := by
    rw [hW2]
    refine r1.stored i 1 (i + 1 + m + 1) ys (by rw [hy, Nat.one_mul]) (by omega) hroom _ (by rw [List.length_append, List.length_append, List.length_take, hxl, hcl, hy]; omega) (fun cur hcur hcl2 => ?_)
    have l1 : (xs.take ((i + 1) * 4)).length = (i + 1) * 4 := by rw [List.length_take, hxl]; omega
    have e1 : cur.take (i * 4) = xs.take (i * 4) := by
      have := congrArg (List.take (i * 4)) hcur
      rw [List.take_take, Nat.min_eq_left (by omega), List.take_append_of_le_length (by omega), List.take_take, Nat.min_eq_left (by omega)] at this
      exact this
    have e2 : (cur.drop (i * 4 + ys.length)).take ((m + 1) * 4) = cs := by
      have e3 : (xs.take ((i + 1) * 4) ++ cs).drop ((i + 1) * 4) = cs := by rw [List.drop_append_of_le_length (by omega), List.drop_of_length_le (by omega), List.nil_append]
      have := congrArg (List.drop ((i + 1) * 4)) hcur
      rw [e3, List.drop_take] at this
      rw [hy, ← this]
      congr 1
      · omega
      · congr 1; omega
    rw [e1, ← e2, List.take_append, List.take_of_length_le (by rw [List.length_append, List.length_take, hxl, hy]; omega)]
    congr 2
    rw [List.length_append, List.length_take, hxl, hy]
    omega
  have hov : ∀ (la ca lb cb : Nat), (callFunc 56 #[.slice (some ⟨b, 0, none⟩) la ca, .slice (some ⟨g, (i + 1) * 4, none⟩) lb cb]).run Try.prog w = .ok (.value (.bool false)) w := fun la ca lb cb => by
    obtain ⟨_, cur, hg, h2, h3, h4, h5⟩ := h
    rw [run_callFunc_extern Try.func56 (by kernel_rfl) (by kernel_rfl) (by kernel_rfl) (e := Extern.SlicesOverlaps.overlaps #[22, 22] #[4]) (by kernel_rfl),
      Lib.run_overlaps_apart w 22 4 37 Try.underlying22 4 (fun w => by kernel_rfl) ⟨b, 0, none⟩ ⟨g, (i + 1) * 4, none⟩ la ca lb cb hne 37 37 ys.length cur.size (by simp [World.shape?, hb]) (by simp [World.shape?, hg]) (by omega) (by simp [World.frozen?, hb]) (by simp [World.frozen?, hb])]
    rfl
  have R := Aside0.mk (And.intro r2 (And.intro hw2 hcs))
  have f1 : (i : Int) + 1 + (m : Int) + 1 ≤ (cap : Int) := by omega
  have f2 : (cap : Int) ≤ 9223372036854775807 := by omega
  have f3 : ¬ cap = i := by omega
  have f4 : ¬ cap = i + 1 := by omega
  have f5 : i + 1 + m + 1 - (i + 1) = m + 1 := by omega
  have f6 : i + 1 + m + 1 - i = m + 1 + 1 := by omega
  have f7 : ((i : Int) == (i : Int) + 1 + (m : Int)) = false := beq_eq_false_iff_ne.2 (by omega)
  have f8 : 0 ≤ (i : Int) + 1 := by omega
  have f9 : (i : Int) + 1 ≤ (cap : Int) := by omega
  have f10 : (i : Int) ≤ (cap : Int) := by omega
  have f11 : i + 1 + m + 1 ≤ cap := hroom
  clear h hd r1 hw1 hW1 r2 hw2 hW2 hcl hxl hx h1 hy hb hb1 hne hcs hmax
  go_enter Try.func54, Try.ntmps54
  go_wp2
  have g1 : (i : Int) + 1 ≤ (i : Int) + 1 + (m : Int) + 1 := by omega
  have g4 : (i : Int) ≤ (i : Int) + 1 + (m : Int) + 1 := by omega
  have g2 : ((i : Int) + 1).toNat = i + 1 := by omega
  have g3 : IntKind.i64.wrap ((i : Int) + 1) = (i : Int) + 1 := IntWalk.i64_in _ (by omega)
  go_region_law (refine step_copy_run (by rfl) (.tmp 73) (.tmp 76) 22 22 (by rfl) (.slice (some ⟨g, (i + 1) * 4, none⟩) (m + 1) (cap - (i + 1))) (.slice (some ⟨g, i * 4, none⟩) (m + 1 + 1) (cap - i)) (by simp [Act.eval, Act.put]) (by simp [Act.eval, Act.put]) (hcp1 _) ?_)
  clear g1 g2 g3
  go_wp2
  go_ret
  obtain ⟨r2, hw2, hcs⟩ := R.out
  rw [← hcs]
  exact ⟨rfl, r2, hw2⟩
set_option maxRecDepth 100000 in
set_option maxHeartbeats 8000000 in
/-- Ahead of some, without room. -/
theorem insert_grow37 (g i m b : Nat) (xs ys : List Value) (w : World) (h : Rowed 37 4 w g (i + 1 + m) (i + 1 + m) xs) (hx : ∀ u ∈ xs, u.oneCell' = true) (hb : w.heap[b]? = some (.cells ys.toArray 37 (0, 0))) (hy : ys.length = 4) (h1 : ∀ u ∈ ys, u.oneCell' = true) (hbig : i + 1 + m ≤ 1099511627776) :
    Calls Try.prog 54 #[.slice (some ⟨g, 0, none⟩) (i + 1 + m) (i + 1 + m), .int .i64 i, .slice (some ⟨b, 0, none⟩) 1 1] w fun e w' => ∃ G, e = .returned (.slice (some ⟨w.heap.size, 0, none⟩) (i + 1 + m + 1) G) ∧ Rowed 37 4 w' w.heap.size G (i + 1 + m + 1) (xs.take (i * 4) ++ ys ++ xs.drop (i * 4)) ∧ Below w.heap.size w w' := by
  obtain ⟨i0, hi0, hz0, hz1, hz2⟩ := info_parts infoF37
  have hsz : (Try.prog.info? 37).map (·.size) = some 4 := by rw [hi0]; simp [hz1]
  have hxl := h.1
  have hgl := h.lt
  have hbl : b < w.heap.size := (Array.getElem?_eq_some_iff.1 hb).1
  have hik : i + (m + 1 + 1) = i + 1 + m + 1 := by omega
  obtain ⟨cs, hcs⟩ : ∃ cs, cs = xs.drop (i * 4) := ⟨_, rfl⟩
  have hcl : cs.length = (m + 1) * 4 := by rw [hcs, List.length_drop, hxl]; omega
  have htl : (xs.take (i * 4)).length = i * 4 := by rw [List.length_take, hxl]; omega
  have hold : (Builtin.firstCells i0.size i (.slice (some ⟨g, 0, none⟩) i (i + 1 + m))).run Try.prog w.drew = .ok (xs.take (i * 4)).toArray w.drew := by
    rw [hz1]
    exact run_firstCells_some w.drew 4 i ⟨g, 0, none⟩ i (i + 1 + m) (xs.take (i * 4)) htl (fun j v hj => by
      rw [add_plain]
      rw [List.getElem?_take] at hj
      split at hj
      · exact (h.cell hj).1
      · cases hj)
  obtain ⟨G, hG⟩ : ∃ G, G = grownCap w (i + (m + 1 + 1)) (i + 1 + m) 37 := ⟨_, rfl⟩
  obtain ⟨ROW, hROW⟩ : ∃ ROW : Array Value, ROW = (xs.take (i * 4)).toArray ++ Builtin.zeroCells zc37 (m + 1 + 1) ++ Builtin.zeroCells zc37 (G - (i + (m + 1 + 1))) := ⟨_, rfl⟩
  have hrz : ∀ ty (x : Int), x = ((m + 1 + 1 : Nat) : Int) → (Builtin.append_ #[22, 3] ty #[.slice (some ⟨g, 0, none⟩) i (i + 1 + m), .int .i64 x]).run Try.prog w = .ok (.slice (some ⟨w.heap.size, 0, none⟩) (i + 1 + m + 1) G) (w.drew.alloc (.cells ROW 37)) := fun ty x hxx => by
    have h2 := Lib.run_append_grow_zeros w 22 3 ty 37 i0 _ .i64 .i64 Try.underlying22 Try.underlying3 hi0 hz0 (some ⟨g, 0, none⟩) i (i + 1 + m) (xs.take (i * 4)) hold (m + 1 + 1) (by omega) (by omega) (by omega) (by omega) (by rw [hz2]; omega) (by rw [hz2]; exact growslice_fits (by omega) (by omega))
    rw [← hG] at h2
    rw [hxx, hROW, ← hik]
    exact h2
  have hGn : i + 1 + m + 1 ≤ G := by rw [hG, ← hik]; exact grownCap_ge w _ _ _
  have hG63 : G ≤ 9223372036854775807 := by
    have := grownCap_le_maxLen w (i + (m + 1 + 1)) (i + 1 + m) 37 (by unfold maxLen; omega)
    rw [← hG] at this
    unfold maxLen at this
    omega
  have hzl : ∀ k, (Builtin.zeroCells zc37 k).size = k * 4 := fun k => by simp [Builtin.zeroCells, zc37]
  obtain ⟨W1, hW1⟩ : ∃ W1, W1 = w.drew.alloc (.cells ROW 37) := ⟨_, rfl⟩
  rw [← hW1] at hrz
  obtain ⟨zs, hzs⟩ : ∃ zs, zs = (Builtin.zeroCells zc37 (m + 1 + 1)).toList := ⟨_, rfl⟩
  have hzsl : zs.length = (m + 1 + 1) * 4 := by rw [hzs, Array.length_toList, hzl]
  have r1 : Rowed 37 4 W1 w.heap.size G (i + 1 + m + 1) (xs.take (i * 4) ++ zs) := by
    refine ⟨by rw [List.length_append, htl, hzsl]; omega, ROW, by rw [hW1]; exact heap_alloc_new w.drew _, hGn, by unfold maxLen; omega, ?_, ?_⟩
    · rw [hROW, Array.size_append, Array.size_append, hzl, hzl, List.size_toArray, htl]; omega
    · rw [hROW, Array.toList_append, Array.toList_append, ← hzs, List.take_append_of_le_length (by rw [List.length_append, hzsl]; simp only [List.length_take, hxl]; omega), List.take_of_length_le (by rw [List.length_append, hzsl]; simp only [List.length_take, hxl]; omega)]
  have b1 : Below w.heap.size w W1 := by rw [hW1]; exact ((Below.refl _ _).drew).alloc (Nat.le_refl _) _
  have hb1 : W1.heap[b]? = some (.cells ys.toArray 37 (0, 0)) := (b1.block b hbl).trans hb
  have hcp1 : ∀ ty, (Builtin.copy_ #[22, 22] ty #[.slice (some ⟨w.heap.size, i * 4, none⟩) (m + 1 + 1) (G - i), .slice (some ⟨b, 0, none⟩) 1 1]).run Try.prog W1 = .ok (goInt (Nat.min 1 (m + 1 + 1))) (W1.setCells w.heap.size (i * 4) ys) := fun ty =>
    run_copy_any W1 22 22 ty 37 w.heap.size (i * 4) (m + 1 + 1) (G - i) ⟨b, 0, none⟩ 1 1 4 ys Try.underlying22 hsz (by rw [hy, show Nat.min 1 (m + 1 + 1) = 1 from Nat.min_eq_left (by omega)])
      (fun j v hj => by rw [add_plain, cell_of_row _ _ _ _ _ _ hb1]; simpa using hj) (fun j hj => (r1.has (by omega)).1) (fun j hj => (r1.has (by omega)).2) h1
  obtain ⟨W2, hW2⟩ : ∃ W2, W2 = W1.setCells w.heap.size (i * 4) ys := ⟨_, rfl⟩
  rw [← hW2] at hcp1
  have w2 : Went (fun k => k = w.heap.size) W1 W2 := by rw [hW2]; exact setCells_went _ _ _ W1
  have r2 : Rowed 37 4 W2 w.heap.size G (i + 1) (xs.take (i * 4) ++ ys) := by
    rw [hW2]
    refine r1.stored i 1 (i + 1) ys (by rw [hy, Nat.one_mul]) (by omega) (by omega) _ (by rw [List.length_append, htl, hy]; omega) (fun cur hcur hcl2 => ?_)
    have e1 : cur.take (i * 4) = xs.take (i * 4) := by
      have e0 : (xs.take (i * 4) ++ zs).take (i * 4) = xs.take (i * 4) := by rw [List.take_append_of_le_length (by omega), List.take_of_length_le (by omega)]
      have := congrArg (List.take (i * 4)) hcur
      rw [e0, List.take_take, Nat.min_eq_left (by omega)] at this
      exact this
    rw [e1, List.take_append_of_le_length (by rw [List.length_append, htl, hy]; omega), List.take_of_length_le (by rw [List.length_append, htl, hy]; omega)]
  have b2 : Below w.heap.size w W2 := w2.below b1 b1.size (fun k hk => by omega)
  have r2d : Rowed 37 4 W2.drew w.heap.size G (i + 1) (xs.take (i * 4) ++ ys) := r2
  have hs2 : Rowed 37 4 W2.drew g (i + 1 + m) (i + 1 + m) xs := by
    obtain ⟨e0, cur, e1, e2⟩ := h
    exact ⟨e0, cur, (b2.block g hgl).trans e1, e2⟩
  have hcp2 : ∀ ty, (Builtin.copy_ #[22, 22] ty #[.slice (some ⟨w.heap.size, (i + 1) * 4, none⟩) (m + 1) (G - (i + 1)), .slice (some ⟨g, i * 4, none⟩) (m + 1) (m + 1)]).run Try.prog W2.drew = .ok (goInt (Nat.min (m + 1) (m + 1))) (W2.drew.setCells w.heap.size ((i + 1) * 4) cs) := fun ty =>
    run_copy_any W2.drew 22 22 ty 37 w.heap.size ((i + 1) * 4) (m + 1) (G - (i + 1)) ⟨g, i * 4, none⟩ (m + 1) (m + 1) 4 cs Try.underlying22 hsz (by rw [hcl, show Nat.min (m + 1) (m + 1) = m + 1 from Nat.min_self _])
      (fun j v hj => by rw [add_at]; rw [hcs, List.getElem?_drop] at hj; exact (hs2.cell hj).1) (fun j hj => (r2d.has (by omega)).1) (fun j hj => (r2d.has (by omega)).2) (fun v hv => hx v (List.mem_of_mem_drop (hcs ▸ hv)))
  obtain ⟨W3, hW3⟩ : ∃ W3, W3 = W2.drew.setCells w.heap.size ((i + 1) * 4) cs := ⟨_, rfl⟩
  rw [← hW3] at hcp2
  have w3 : Went (fun k => k = w.heap.size) W2 W3 := by rw [hW3]; exact (Went.refl _ W2).drew.trans (setCells_went _ _ _ W2.drew) (fun _ h => h) (fun _ h => .inl h)
  have r3 : Rowed 37 4 W3 w.heap.size G (i + 1 + m + 1) (xs.take (i * 4) ++ ys ++ cs) := by
    rw [hW3]
    refine r2d.stored (i + 1) (m + 1) (i + 1 + m + 1) cs hcl (by omega) hGn _ (by rw [List.length_append, List.length_append, htl, hcl, hy]; omega) (fun cur hcur hcl2 => ?_)
    rw [hcur, List.take_append_of_le_length (by rw [List.length_append, List.length_append, htl, hcl, hy]; omega), List.take_of_length_le (by rw [List.length_append, List.length_append, htl, hcl, hy]; omega)]
  have b3 : Below w.heap.size w W3 := w3.below b2 b2.size (fun k hk => by omega)
  have R := Aside0.mk (And.intro r3 (And.intro b3 hcs))
  have f2 : (i : Int) + 1 + (m : Int) ≤ 1099511627776 := by omega
  have f3 : ¬ i + 1 + m = i := by omega
  have f4 : i + 1 + m - i = m + 1 := by omega
  have f5 : i + 1 + m + 1 - (i + 1) = m + 1 := by omega
  have f6 : i + 1 + m + 1 - i = m + 1 + 1 := by omega
  have f7 : ((i : Int) == (i : Int) + 1 + (m : Int)) = false := beq_eq_false_iff_ne.2 (by omega)
  have f8 : 0 ≤ (i : Int) + 1 := by omega
  have f10 : (i : Int) ≤ (i : Int) + 1 + (m : Int) := by omega
  have f11 : (i : Int) + 1 + (m : Int) < (i : Int) + 1 + (m : Int) + 1 := by omega
  have f12 : ¬ G = i := by omega
  have f13 : ¬ G = i + 1 := by omega
  have f14 : (i : Int) + 1 + (m : Int) + 1 ≤ (G : Int) := by omega
  have f15 : (G : Int) ≤ 9223372036854775807 := by omega
  have f16 : i + 1 + m + 1 ≤ G := hGn
  clear h r1 b1 hW1 hb1 r2 w2 hW2 r2d hs2 b2 w3 hW3 r3 b3 hcl hxl hx h1 hy hb hcs hG hROW hold hzl hzs hzsl hGn hG63 htl hik hgl hbl hbig
  go_enter Try.func54, Try.ntmps54
  go_wp2_with ((with_reducible refine gate_builtin (b := .append) (xs := #[.tmp 34, .tmp 39]) rfl ?_); at_builtin; refine wpList_append_run rfl (.tmp 34) (.tmp 39) 22 3 rfl (.slice (some ⟨g, 0, none⟩) i (i + 1 + m)) _ rfl rfl (hrz _ _ (by omega)) ?_)
  have g1 : (i : Int) + 1 ≤ (i : Int) + 1 + (m : Int) + 1 := by omega
  have g2 : ((i : Int) + 1).toNat = i + 1 := by omega
  have g3 : IntKind.i64.wrap ((i : Int) + 1) = (i : Int) + 1 := IntWalk.i64_in _ (by omega)
  go_region_law (refine step_copy_run (by rfl) (.tmp 50) (.tmp 53) 22 22 (by rfl) (.slice (some ⟨w.heap.size, (i + 1) * 4, none⟩) (m + 1) (G - (i + 1))) (.slice (some ⟨g, i * 4, none⟩) (m + 1) (m + 1)) (by simp [Act.eval, Act.put]) (by simp [Act.eval, Act.put]) (hcp2 _) ?_)
  clear g1 g2 g3
  go_wp2
  go_ret
  obtain ⟨r3, b3, hcs⟩ := R.out
  rw [← hcs]
  exact ⟨_, rfl, r3, b3⟩
end Go.Proofs.Ytkhghabenhhhaaa.Sl
