/- What the library's IndexFunc and DeleteFunc come to over the queue's row, for the closure that tells a number. No conditions beside those that each contract states. -/
import Derived.Test.YtghgjjpddemjkaaDuePP
import Derived.Lib.SliceRun
namespace Go.Proofs.Ytghgjjpddemjkaa.Due
open Go.RowKit Go.Proofs.Ytghgjjpddemjkaa.Pa Go.Proofs.YtghgjjpddemjkaaW.PrintWords Go.Proofs.YtghgjjpddemjkaaW.PrintLast Go.Proofs.YtghgjjpddemjkaaW.PrintMore
set_option linter.unusedVariables false

theorem zero_due (w : World) : (zeroValue 30).run Try.prog w = .ok (.agg #[.int .i64 0, .int .i64 0]) w := by kernel_rfl
theorem clear_arr (g cap : Nat) (h : List D) (i : Nat) (w : World) (hA : Arr w g cap h) (hi : i < h.length) :
    ∃ W, (∀ ty, (Builtin.clear_ #[25] ty #[.slice (some ⟨g, i * 2, none⟩) (h.length - i) (cap - i)]).run Try.prog w = .ok (.tuple #[]) W) ∧ Arr W g cap (h.take i) ∧ Went (fun k => k = g) w W := by
  obtain ⟨cur, h1, h2, h3, h4, h5⟩ := hA
  obtain ⟨vs, hvs⟩ : ∃ vs, vs = (Builtin.zeroCells #[Value.int .i64 0, Value.int .i64 0] (h.length - i)).toList := ⟨_, rfl⟩
  have hlen : vs.length = (h.length - i) * 2 := by rw [hvs]; simp [Builtin.zeroCells]
  have hone : ∀ v ∈ vs, v.oneCell' = true := by
    intro v hv
    rw [hvs] at hv
    simp only [Builtin.zeroCells, Array.toList_map, Array.toList_range, List.mem_map, List.mem_range] at hv
    obtain ⟨k, _, rfl⟩ := hv
    have e : ∀ m, m < 2 → (#[Value.int .i64 0, Value.int .i64 0][m]!).oneCell' = true := by
      intro m hm
      rcases m with _ | _ | m
      · rfl
      · rfl
      · omega
    exact e _ (Nat.mod_lt _ (by decide))
  have hst := run_storeCells_at Try.prog g (i * 2) 30 vs 0 cur w h1 (by omega) hone
  simp only [Nat.add_zero] at hst
  refine ⟨w.setRow g (cur.toList.take (i * 2) ++ vs ++ cur.toList.drop (i * 2 + vs.length)).toArray, fun ty => ?_, ?_, ?_⟩
  · obtain ⟨m, hm⟩ : ∃ m, h.length - i = m + 1 := ⟨h.length - i - 1, by omega⟩
    rw [hm] at hvs ⊢
    simp [Builtin.clear_, run_underlying Try.underlying25, - List.append_assoc]
    show ((Sem.run Try.prog (storeCells ⟨g, i * 2, none⟩ (Builtin.zeroCells #[Value.int .i64 0, Value.int .i64 0] (m + 1)).toList) w).andThen fun a w' => Result.ok (Value.tuple #[]) w') = _
    rw [← hvs, hst]
    rfl
  · refine ⟨_, setRow_heap _ _ _ _ _ _ h1, by simp; omega, h3, ?_, ?_⟩
    · simp [hlen]; omega
    · have hl : (h.take i).length = i := by simp; omega
      rw [hl, flat_take, ← h5, List.take_take, Nat.min_eq_left (by omega)]
      have hlen1 : (cur.toList.take (i * 2)).length = i * 2 := by simp; omega
      show List.take (i * 2) (cur.toList.take (i * 2) ++ vs ++ cur.toList.drop (i * 2 + vs.length)) = _
      rw [List.append_assoc, List.take_append_of_le_length (by omega), List.take_of_length_le (by omega)]
  · exact ⟨rfl, rfl, rfl, by simp, fun k hk hne => setRow_other _ _ _ _ hne⟩

/-- Has it that number? -/
def hit (id : Int) (d : D) : Bool := d.f1 == id
set_option maxRecDepth 100000 in
theorem clo_any (id : Int) (x : D) (pb : Nat) (w : World) (hc : w.cell? ⟨pb, 0, none⟩ = some (.int .i64 id)) (hl : pb < w.heap.size) :
    Calls Try.prog 20 #[.agg #[.int .i64 x.f0, .int .i64 x.f1], .pointer (some ⟨pb, 0, none⟩)] w fun e w' => e = .returned (.bool (hit id x)) ∧ Below w.heap.size w w' := by
  go_enter Try.func20, Try.ntmps20
  go_wp2
  go_ret
  exact ⟨rfl, (Below.refl _ _).alloc (Nat.le_refl _) _⟩
/-- Where the first of that number stands. -/
def Idx (h : List D) (id : Int) (w : World) (e : Ending) (w' : World) : Prop :=
  ((∃ k : Nat, k < h.length ∧ e = .returned (.int .i64 k) ∧ (∀ m, m < k → hit id (at' h m) = false) ∧ hit id (at' h k) = true) ∨ (e = .returned (.int .i64 (-1)) ∧ ∀ m, m < h.length → hit id (at' h m) = false)) ∧ Below w.heap.size w w'
set_option maxRecDepth 100000 in
set_option maxHeartbeats 4000000 in
theorem idx_any (g cap : Nat) (h : List D) (id : Int) (pb : Nat) (w : World) (hA : Arr w g cap h) (hn : h.length ≤ 1099511627776) (hc : w.cell? ⟨pb, 0, none⟩ = some (.int .i64 id)) (hl : pb < w.heap.size) :
    Calls Try.prog 24 #[.slice (some ⟨g, 0, none⟩) h.length cap, .func (.func 20) #[] #[.pointer (some ⟨pb, 0, none⟩)]] w (Idx h id w) := by
  have HA := Aside0.mk hA
  have HC := Aside0.mk hc
  clear hA hc
  go_enter Try.func24, Try.ntmps24
  go_wp2
  go_loopw [8] (fun i wr => ∃ k : Nat, k ≤ h.length ∧ i = .int .i64 k ∧ Aside0 (∀ m, m < k → hit id (at' h m) = false) ∧ Aside0 (Below w.heap.size w wr)) (fun i _ => h.length - (intOf i).toNat)
  case atStart => exact ⟨0, by omega, rfl, ⟨fun m hm => absurd hm (by omega)⟩, ⟨Below.refl _ _⟩⟩
  case round =>
    obtain ⟨k, hk, rfl, HN, HB⟩ := hrel
    by_cases hlt : k < h.length
    · obtain ⟨c0, c1, _, _⟩ := (HA.out.kept (Went.of_below HB.out (fun _ => False)) (fun h => h)).cells k hlt
      have hc := fun W (hb : Below w.heap.size w W) => clo_any id (at' h k) pb W ((hb.cell hl).trans HC.out) (Nat.lt_of_lt_of_le hl hb.size)
      obtain ⟨x, hx⟩ : ∃ x, x = at' h k := ⟨_, rfl⟩
      rw [← hx] at c0 c1 hc
      have HX := Aside0.mk hx
      clear hx
      cases hp : hit id x with
      | true =>
        rw [hp] at hc
        have HP := Aside0.mk hp
        clear hp
        go_wp2_with (go_at_call 20; refine (hc _ HB.out).mono ?_; rintro e w1 ⟨rfl, hb⟩; have HB2 := Aside0.mk hb; clear hb hc)
        go_ret
        exact ⟨.inl ⟨k, hlt, rfl, HN.out, by rw [← HX.out]; exact HP.out⟩, below_then HB.out HB.out.size HB2.out⟩
      | false =>
        rw [hp] at hc
        have HP := Aside0.mk hp
        clear hp
        go_wp2_with (go_at_call 20; refine (hc _ HB.out).mono ?_; rintro e w1 ⟨rfl, hb⟩; have HB2 := Aside0.mk hb; clear hb hc)
        refine ⟨⟨k + 1, by omega, by go_num, ⟨fun m hm => ?_⟩, ⟨below_then HB.out HB.out.size HB2.out⟩⟩, by simp [intOf]; omega⟩
        rcases Nat.lt_or_ge m k with h1 | h1
        · exact HN.out m h1
        · obtain rfl : m = k := by omega
          rw [← HX.out]; exact HP.out
    · obtain rfl : k = h.length := by omega
      go_wp2
      go_ret
      exact ⟨.inr ⟨rfl, HN.out⟩, HB.out⟩

theorem filter_all {p : D → Bool} {h : List D} (hn : ∀ m, m < h.length → p (at' h m) = false) : h.filter (fun d => !p d) = h := by
  rw [List.filter_eq_self]
  intro a ha
  obtain ⟨m, hm, rfl⟩ := List.getElem_of_mem ha
  have := hn m hm
  rw [at_get hm] at this
  rw [this]; rfl
theorem filter_first {p : D → Bool} {h : List D} {k : Nat} (hk : k < h.length) (hn : ∀ m, m < k → p (at' h m) = false) (hp : p (at' h k) = true) : (h.take (k + 1)).filter (fun d => !p d) = h.take k := by
  rw [List.take_succ_eq_append_getElem hk, List.filter_append]
  have e1 : (h.take k).filter (fun d => !p d) = h.take k := filter_all (fun m hm => by
    have hm' : m < k := by simp at hm; omega
    have : at' (h.take k) m = at' h m := by simp [at', List.getD_eq_getElem?_getD, hm']
    rw [this]; exact hn m hm')
  rw [e1]
  rw [at_get hk] at hp
  simp [hp]
theorem filter_next {p : D → Bool} {h : List D} {j : Nat} (hj : j < h.length) : (h.take (j + 1)).filter (fun d => !p d) = (h.take j).filter (fun d => !p d) ++ (if p (at' h j) = true then [] else [at' h j]) := by
  rw [List.take_succ_eq_append_getElem hj, List.filter_append, at_get hj]
  cases hp : p h[j] <;> simp [hp]
theorem take_set_same {l : List D} {i : Nat} (x : D) (hi : i < l.length) : (l.set i x).take (i + 1) = l.take i ++ [x] := by
  rw [List.take_succ_eq_append_getElem (by simpa using hi)]
  simp [List.take_set_of_le]
theorem at_drop {l h : List D} {j : Nat} (e : l.drop j = h.drop j) (hl : l.length = h.length) (hj : j < h.length) : at' l j = at' h j := by
  rw [at_get hj, at_get (by omega)]
  have := congrArg (fun x => x[0]?) e
  simp only [List.getElem?_drop] at this
  simpa [List.getElem?_eq_getElem, hj, hl] using this
set_option maxRecDepth 100000 in
set_option maxHeartbeats 8000000 in
theorem del_any (g cap : Nat) (h : List D) (id : Int) (pb : Nat) (w : World) (hA : Arr w g cap h) (hn : h.length ≤ 1099511627776) (hc : w.cell? ⟨pb, 0, none⟩ = some (.int .i64 id)) (hl : pb < w.heap.size) (hne : pb ≠ g) :
    Calls Try.prog 19 #[.slice (some ⟨g, 0, none⟩) h.length cap, .func (.func 20) #[] #[.pointer (some ⟨pb, 0, none⟩)]] w fun e w' =>
      e = .returned (.slice (some ⟨g, 0, none⟩) (h.filter (fun d => !hit id d)).length cap) ∧ Arr w' g cap (h.filter (fun d => !hit id d)) ∧ Went (fun k => k = g) w w' := by
  have hidx := idx_any g cap h id pb w hA hn hc hl
  have HA := Aside0.mk hA
  have HC := Aside0.mk hc
  have hcap : h.length ≤ cap := by obtain ⟨cur, _, h2, _⟩ := hA; exact h2
  have hmax : cap ≤ 9223372036854775807 := by obtain ⟨cur, _, _, h3, _⟩ := hA; simpa [maxLen] using h3
  have hgl := hA.lt
  clear hA hc
  go_enter Try.func19, Try.ntmps19
  go_wp2_with fail
  go_at_call 24
  refine hidx.mono ?_
  rintro e w1 ⟨he, hb⟩
  have HB := Aside0.mk hb
  clear hidx hb
  rcases he with ⟨k, hk, rfl, hfirst, hhit⟩ | ⟨rfl, hnone⟩
  · have hk1 : ((k : Int) == -1) = false := beq_eq_false_iff_ne.2 (by omega)
    have HF := Aside0.mk (filter_first hk hfirst hhit)
    clear hfirst hhit
    clear hmax
    go_wp2
    go_loopw [5, 6] (fun iv jv wr => ∃ (i j : Nat) (l : List D), iv = .int .i64 i ∧ jv = .int .i64 j ∧ i < j ∧ j ≤ h.length ∧ Aside0 (l.length = h.length) ∧ Aside0 (l.take i = (h.take j).filter (fun d => !hit id d)) ∧ Aside0 (l.drop j = h.drop j) ∧ Aside0 (Arr wr g cap l) ∧ Aside0 (Went (fun k => k = g) w wr)) (fun _ jv _ => h.length - (intOf jv).toNat)
    case atStart => exact ⟨k, k + 1, h, rfl, by go_num, by omega, by omega, ⟨rfl⟩, ⟨HF.out.symm⟩, ⟨rfl⟩, ⟨HA.out.kept (Went.of_below HB.out (fun _ => False)) (fun h => h)⟩, ⟨Went.of_below HB.out _⟩⟩
    case round =>
      clear HF HA HB hk1 hk
      obtain ⟨i, j, l, rfl, rfl, hij, hj, HL, HT, HD, HA, HW⟩ := hrel
      by_cases hlt : j < h.length
      · obtain ⟨c0, c1, _, _⟩ := HA.out.cells j (by have := HL.out; omega)
        have hcl := fun W (hb : Below wr.heap.size wr W) => clo_any id (at' l j) pb W ((hb.cell (Nat.lt_of_lt_of_le hl HW.out.size)).trans (cell_kept HC.out HW.out.kept hne)) (Nat.lt_of_lt_of_le hl (Nat.le_trans HW.out.size hb.size))
        have hx : at' l j = at' h j := at_drop HD.out HL.out hlt
        have hfn := filter_next (p := hit id) hlt
        rw [← hx] at hfn
        generalize at' l j = x at c0 c1 hcl hx hfn
        have hgw : g < wr.heap.size := HA.out.lt
        cases hp : hit id x with
        | true =>
          rw [hp] at hcl hfn
          have HX := Aside0.mk hx
          have HN := Aside0.mk hfn
          clear hp hx hfn
          go_wp2_with (go_at_call 20; refine (hcl _ ((Below.refl _ _).alloc (Nat.le_refl _) _)).mono ?_; rintro e w2 ⟨rfl, hb⟩; have HB2 := Aside0.mk hb; clear hb hcl)
          have hbb : Below wr.heap.size wr w2 := below_then ((Below.refl _ _).alloc (Nat.le_refl _) _) (by simp) HB2.out
          refine ⟨⟨i, j + 1, l, rfl, by go_num, by omega, by omega, HL, ⟨by rw [HT.out, HN.out]; simp⟩, ⟨by rw [← List.drop_drop, HD.out, List.drop_drop]⟩, ⟨HA.out.kept (Went.of_below hbb (fun _ => False)) (fun h => h)⟩, ⟨HW.out.trans (Went.of_below hbb (fun _ => False)) (fun _ h => h) (fun _ h => h.elim)⟩⟩, by simp [intOf]; omega⟩
        | false =>
          rw [hp] at hcl hfn
          have HX := Aside0.mk hx
          have HN := Aside0.mk hfn
          clear hp hx hfn
          have hil : (i : Int) < (h.length : Int) := by omega
          go_wp2_with (go_at_call 20; refine (hcl _ ((Below.refl _ _).alloc (Nat.le_refl _) _)).mono ?_; rintro e w2 ⟨rfl, hb⟩; have HB2 := Aside0.mk (below_then ((Below.refl _ _).alloc (Nat.le_refl _) _) (by simp) hb : Below wr.heap.size wr w2); obtain ⟨d0, d1, d2, d3⟩ := (HA.out.kept (Went.of_below HB2.out (fun _ => False)) (fun h => h)).cells i (by have := HL.out; omega); obtain ⟨v0, v1⟩ : w2.cell? ⟨wr.heap.size, 0, none⟩ = some (.int .i64 x.f0) ∧ w2.cell? ⟨wr.heap.size, 1, none⟩ = some (.int .i64 x.f1) := ⟨(hb.cell (by simp)).trans (by rw [cell_of_row _ _ _ _ _ _ (heap_alloc_new wr _)]; rfl), (hb.cell (by simp)).trans (by rw [cell_of_row _ _ _ _ _ _ (heap_alloc_new wr _)]; rfl)⟩; clear hb hcl)
          have hA2 := HA.out.kept (Went.of_below HB2.out (fun _ => False)) (fun h => h)
          have hw3 : Went (fun k => k = g) w2 ((w2.setCell ⟨g, i * 2, none⟩ (.int .i64 x.f0)).setCell ⟨g, i * 2 + 1, none⟩ (.int .i64 x.f1)) := ((Went.refl _ w2).setq _ _).setq _ _
          have hw2 : Went (fun k => k = g) w w2 := HW.out.trans (Went.of_below HB2.out (fun _ => False)) (fun _ h => h) (fun _ h => h.elim)
          refine ⟨⟨i + 1, j + 1, l.set i x, by go_num, by go_num, by omega, by omega, ⟨by simpa using HL.out⟩, ⟨?_⟩, ⟨?_⟩, ⟨hA2.set i (by have := HL.out; omega) x⟩, ⟨hw2.trans hw3 (fun _ h => h) (fun _ h => .inl h)⟩⟩, by simp [intOf]; omega⟩
          · rw [take_set_same x (by have := HL.out; omega), HT.out, HN.out]; simp
          · rw [List.drop_set_of_lt (by omega), ← List.drop_drop, HD.out, List.drop_drop]
      · obtain rfl : j = h.length := by omega
        have hll := HL.out
        obtain ⟨W, hrun, hA2, hW2⟩ := clear_arr g cap l i wr HA.out (by omega)
        rw [hll] at hrun
        have hci : ¬ cap = i := by omega
        have hic : (i : Int) ≤ (h.length : Int) := by omega
        have HA2 := Aside0.mk hA2
        have HW2 := Aside0.mk hW2
        clear hA2 hW2 hll
        go_wp2
        go_ret
        have e : l.take i = h.filter (fun d => !hit id d) := by rw [HT.out, List.take_length]
        have hli : i = (h.filter (fun d => !hit id d)).length := by rw [← e]; have := HL.out; simp; omega
        refine ⟨?_, by rw [← e]; exact HA2.out, HW.out.trans HW2.out (fun _ h => h) (fun _ h => .inl h)⟩
        rw [← hli]; rfl
  · have HF := Aside0.mk (filter_all hnone)
    clear hnone
    have hm1 : ((-1 : Int) == -1) = true := rfl
    go_wp2
    go_ret
    exact ⟨by rw [HF.out]; rfl, by rw [HF.out]; exact HA.out.kept (Went.of_below HB.out (fun _ => False)) (fun h => h), Went.of_below HB.out _⟩
end Go.Proofs.Ytghgjjpddemjkaa.Due
