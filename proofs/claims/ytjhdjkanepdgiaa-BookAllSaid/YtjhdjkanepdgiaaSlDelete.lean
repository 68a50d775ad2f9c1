/- slices.Delete of one element, cell by cell. No conditions beside those that the contract states. -/
import Derived.Test.YtjhdjkanepdgiaaSlMem
import Derived.Test.YtjhdjkanepdgiaaChecked
import Derived.Lib.SliceRun
namespace Go.Proofs.Ytjhdjkanepdgiaa.Sl
open Go.RowKit Go.Proofs.YtjhdjkanepdgiaaW.PrintWords Go.Proofs.YtjhdjkanepdgiaaW.PrintLast Go.Proofs.YtjhdjkanepdgiaaW.PrintMore
set_option linter.unusedVariables false
set_option linter.unusedSimpArgs false

def zc25 : Array Value := #[.int .i64 0, .int .i64 0, .slice none 0 0]
theorem zc_one25 : ∀ u ∈ zc25.toList, u.oneCell' = true := by
  simp [zc25, Value.oneCell']
theorem infoP25 : ∃ i0, Try.prog.info? 25 = some i0 ∧ i0.size = 3 := by
  have h : (Try.prog.info? 25).map (·.size) = some 3 := by kernel_rfl
  obtain ⟨i0, h1, h2⟩ := Option.map_eq_some_iff.1 h
  exact ⟨i0, h1, h2⟩
/-- clear of one element. -/
theorem clear_one25 (w : World) (g o c : Nat) (hc : ∀ j, j < 3 → (w.cell? ⟨g, o + j, none⟩).isSome = true ∧ w.frozen? ⟨g, o + j, none⟩ = false) (ty : TypeId) :
    (Builtin.clear_ #[22] ty #[.slice (some ⟨g, o, none⟩) 1 c]).run Try.prog w = .ok (.tuple #[]) (w.setCells g o zc25.toList) := by
  have hz : (Builtin.zeroCells zc25 1).toList = zc25.toList := by kernel_rfl
  have hst := run_storeCells_cells (P := Try.prog) g o zc25.toList 0 w (fun j hj => by simpa using (hc j (by simpa [zc25] using hj)).1) (fun j hj => by simpa using (hc j (by simpa [zc25] using hj)).2) zc_one25
  simp only [Nat.add_zero] at hst
  have hz2 : ((.agg #[.int .i64 0, .int .i64 0, .slice none 0 0]) : Value).cells = zc25 := rfl
  simp [Builtin.clear_, run_underlying Try.underlying22, hz2, hz, hst]
set_option maxRecDepth 100000 in
set_option maxHeartbeats 8000000 in
theorem delete_any25 (g cap i m : Nat) (xs : List Value) (w : World) (h : Rowed 25 3 w g cap (i + 1 + m) xs) (h1 : ∀ u ∈ xs, u.oneCell' = true) :
    Calls Try.prog 31 #[.slice (some ⟨g, 0, none⟩) (i + 1 + m) cap, .int .i64 i, .int .i64 (i + 1 : Nat)] w fun e w' => e = .returned (.slice (some ⟨g, 0, none⟩) (i + m) cap) ∧ Rowed 25 3 w' g cap (i + m) (xs.take (i * 3) ++ xs.drop ((i + 1) * 3)) ∧ Went (fun k => k = g) w w' := by
  obtain ⟨i0, hi0, hz1⟩ := infoP25
  obtain ⟨hcap, hmax⟩ := h.room
  have hxl := h.1
  obtain ⟨news, hnews⟩ : ∃ news, news = xs.drop ((i + 1) * 3) := ⟨_, rfl⟩
  have hnl : news.length = m * 3 := by rw [hnews, List.length_drop, hxl]; omega
  obtain ⟨A, hA, hsrc⟩ : ∃ A : Addr, (if cap = i + 1 then some (⟨g, 0, none⟩ : Addr) else some ⟨g, (i + 1) * 3, none⟩) = some A ∧ Hid (∀ t u, news[t]? = some u → w.drew.cell? (A.add t) = some u) := by
    by_cases hc : cap = i + 1
    · refine ⟨⟨g, 0, none⟩, by simp [hc], fun t u hu => ?_⟩
      have h0 : m = 0 := by omega
      subst h0
      rw [List.length_eq_zero_iff.1 (by omega : news.length = 0)] at hu
      simp at hu
    · refine ⟨⟨g, (i + 1) * 3, none⟩, by simp [hc], fun t u hu => ?_⟩
      rw [hnews, List.getElem?_drop] at hu
      rw [add_at]
      exact (h.cell hu).1
  have s1 : Hid (news.length = m * 3) := hnl
  have s2 : Hid (∀ u ∈ news, u.oneCell' = true) := fun u hu => h1 u (List.mem_of_mem_drop (hnews ▸ hu))
  have s3 : Hid (∀ t, t < news.length → (w.drew.cell? ⟨g, 0 + i * 3 + t, none⟩).isSome = true ∧ w.drew.frozen? ⟨g, 0 + i * 3 + t, none⟩ = false) := by
    intro t ht
    rw [Nat.zero_add]
    exact h.has (by omega)
  obtain ⟨W1, hW1⟩ : ∃ W1, W1 = w.drew.setCells g (0 + i * 3) news := ⟨_, rfl⟩
  have hw1 : Went (fun k => k = g) w W1 := by rw [hW1]; exact (Went.refl _ w).drew.trans (setCells_went g _ news w.drew) (fun _ h => h) (fun _ h => .inl h)
  have hd : Rowed 25 3 w.drew g cap (i + 1 + m) xs := h
  have r1 : Rowed 25 3 W1 g cap (i + m) (xs.take (i * 3) ++ news) := by
    rw [hW1, Nat.zero_add]
    refine hd.stored i m (i + m) news hnl (by omega) (by omega) _ (by rw [List.length_append, List.length_take, hxl, hnl]; omega) (fun cur hcur hcl => ?_)
    have e1 : (cur.take (i * 3)) = xs.take (i * 3) := by rw [← hcur, List.take_take, Nat.min_eq_left (by omega)]
    rw [e1, List.take_append_of_le_length (by rw [List.length_append, List.length_take, hxl, hnl]; omega), List.take_of_length_le (by rw [List.length_append, List.length_take, hxl, hnl]; omega)]
  have hfull : Rowed 25 3 W1 g cap (i + 1 + m) (xs.take (i * 3) ++ news ++ xs.drop ((i + m) * 3)) := by
    rw [hW1, Nat.zero_add]
    refine hd.stored i m (i + 1 + m) news hnl (by omega) (by omega) _ (by rw [List.length_append, List.length_append, List.length_take, List.length_drop, hxl, hnl]; omega) (fun cur hcur hcl => ?_)
    have e1 : (cur.take (i * 3)) = xs.take (i * 3) := by rw [← hcur, List.take_take, Nat.min_eq_left (by omega)]
    have e2 : xs.drop ((i + m) * 3) = (cur.drop (i * 3 + news.length)).take 3 := by
      rw [← hcur, List.drop_take, hnl]
      congr 1
      · omega
      · congr 1; omega
    rw [e1, e2, List.take_append, List.take_of_length_le (by rw [List.length_append, List.length_take, hxl, hnl]; omega)]
    congr 2
    rw [List.length_append, List.length_take, hxl, hnl]
    omega
  have hcl := fun ty => clear_one25 W1 g ((i + m) * 3) (cap - (i + m)) (fun j hj => hfull.has (by have := hcap; omega)) ty
  obtain ⟨W2, hW2⟩ : ∃ W2, W2 = W1.setCells g ((i + m) * 3) zc25.toList := ⟨_, rfl⟩
  rw [← hW2] at hcl
  have r2 : Rowed 25 3 W2 g cap (i + m) (xs.take (i * 3) ++ news) := by
    rw [hW2]
    refine r1.stored (i + m) 1 (i + m) zc25.toList rfl (by omega) (by omega) _ r1.1 (fun cur hcur hcl => ?_)
    rw [List.append_assoc, List.take_append_of_le_length (by rw [List.length_take]; omega), List.take_take, Nat.min_self, hcur]
  have hw2 : Went (fun k => k = g) w W2 := by rw [hW2]; exact hw1.trans (setCells_went g _ _ W1) (fun _ h => h) (fun _ h => .inl h)
  have R := Aside0.mk (And.intro r2 (And.intro hw2 hnews))
  have hW : Hid (W1 = w.drew.setCells g (0 + i * 3) news) := hW1
  have f0 : 0 ≤ (i : Int) + 1 := by omega
  have f1 : (i : Int) + 1 ≤ (cap : Int) := by omega
  have f2 : (i : Int) ≤ (cap : Int) := by omega
  have f3 : (i : Int) + 1 ≤ (i : Int) + 1 + (m : Int) := by omega
  have f4 : i + 1 + m ≤ cap := hcap
  have f5 : (cap : Int) ≤ 9223372036854775807 := by omega
  have f6 : ¬ cap = i + m := by omega
  have f7 : i + 1 + m - (i + m) = 1 := by omega
  have f8 : ((i : Int) == (i : Int) + 1) = false := beq_eq_false_iff_ne.2 (by omega)
  have f9 : i + 1 + m - (i + 1) = m := by omega
  clear h hd r1 hfull hw1 hW1 r2 hw2 hW2 hnl hxl h1 hmax hcap hnews
  go_enter Try.func31, Try.ntmps31
  go_wp2_with fail
  go_region_law (refine step_append_room rfl (.tmp 22) (.tmp 25) 22 rfl 25 i0 3 Try.underlying22 hi0 hz1 g 0 i cap (by simp [Act.eval, Act.put]) A m (cap - (i + 1)) news (by simp [Act.eval, Act.put]) s1.out hsrc.out s2.out (by omega) s3.out ?_; rw [← hW.out])
  go_wp2
  go_ret
  obtain ⟨r2, hw2, hnews⟩ := R.out
  rw [← hnews]
  exact ⟨rfl, r2, hw2⟩
end Go.Proofs.Ytjhdjkanepdgiaa.Sl
