/- slices.DeleteFunc of the lines that have nothing open. No conditions beside those that each contract states. -/
import Derived.Test.YtjhdjkanepdgiaaWRepsOne
import Derived.Test.YtjhdjkanepdgiaaBookDel
namespace Go.Proofs.Ytjhdjkanepdgiaa.Book
open Go Go.RowKit Go.Proofs.Ytjhdjkanepdgiaa.Pa Go.Proofs.YtjhdjkanepdgiaaW.PrintWords Go.Proofs.YtjhdjkanepdgiaaW.PrintLast Go.Proofs.YtjhdjkanepdgiaaW.PrintMore Go.Proofs.Ytjhdjkanepdgiaa.Sl
set_option linter.unusedVariables false
set_option linter.unusedSimpArgs false

def shutL (x : Line) : Bool := !openL x
theorem shut_any (x : Line) (w : World) : Calls Try.prog 34 #[.agg #[.int .i64 x.f0, .int .i64 x.f1, .int .i64 x.f2]] w fun e w' => e = .returned (.bool (shutL x)) ∧ Below w.heap.size w w' := by
  have pl := fun W => open_any x W
  unfold shutL
  obtain ⟨b, hb⟩ : ∃ b, b = openL x := ⟨_, rfl⟩
  rw [← hb] at pl ⊢
  clear hb
  have hw : Below w.heap.size w (w.alloc (.cells #[.int .i64 x.f0, .int .i64 x.f1, .int .i64 x.f2] 33)) := (Below.refl _ _).alloc (Nat.le_refl _) _
  have HW := Aside0.mk hw
  clear hw
  go_enter Try.func34, Try.ntmps34
  go_wp2_with (go_at_call 30; refine (pl _).mono ?_; rintro e w1 ⟨rfl, hb⟩; have HB := Aside0.mk (below_then HW.out (by simp) hb); clear hb)
  go_ret
  exact ⟨rfl, HB.out⟩
/-- Where the first one stands; -1: nowhere. -/
def idxS (l : List Line) : Int := if l.any shutL then (l.findIdx shutL : Nat) else -1
theorem idxS_some {l : List Line} {k : Nat} (h : k < l.length) (hn : ∀ x ∈ l.take k, shutL x = false) (hp : shutL (l.getD k z33) = true) : idxS l = (k : Int) := by
  have hk : l.getD k z33 = l[k] := by simp [h]
  rw [hk] at hp
  have ha : l.any shutL = true := List.any_eq_true.2 ⟨l[k], List.getElem_mem h, hp⟩
  unfold idxS
  rw [if_pos ha]
  have : l.findIdx shutL = k := by
    rw [List.findIdx_eq h]
    refine ⟨hp, fun j hj => ?_⟩
    have := hn l[j] (by rw [List.mem_take_iff_getElem]; exact ⟨j, by omega, rfl⟩)
    simpa using this
  rw [this]
theorem idxS_none {l : List Line} (hn : ∀ x ∈ l, shutL x = false) : idxS l = -1 := by
  unfold idxS
  have ha : l.any shutL = false := by rw [List.any_eq_false]; intro x hx; simp [hn x hx]
  rw [ha]; rfl
set_option maxRecDepth 100000 in
set_option maxHeartbeats 4000000 in
theorem indexS_any (A0 : Option Addr) (c0 : Nat) (l0 : List Line) (w : World) (hr0 : Kd.C k33 w A0 l0.length l0) (hc0 : l0.length ≤ c0) :
    Calls Try.prog 42 #[.slice A0 l0.length c0, .func (.func 34) #[] #[]] w fun e w' => e = .returned (.int .i64 (idxS l0)) ∧ Below w.heap.size w w' := by
  have hmax : l0.length ≤ 9223372036854775807 := Kd.C_max hr0
  have HR := Aside0.mk hr0
  clear hr0
  go_enter Try.func42, Try.ntmps42
  go_wp2
  go_loopw [8] (fun i wr => ∃ k : Nat, k ≤ l0.length ∧ i = .int .i64 k ∧ Aside0 (∀ x ∈ l0.take k, shutL x = false) ∧ Aside0 (Below w.heap.size w wr)) (fun i _ => l0.length - (intOf i).toNat)
  case atStart => exact ⟨0, by omega, rfl, ⟨by simp⟩, ⟨Below.refl _ _⟩⟩
  case round =>
    obtain ⟨k, hk, rfl, HN, HB⟩ := hrel
    by_cases hlt : k < l0.length
    · obtain ⟨ad, rfl, hcs⟩ := at_T33 (Kd.C_below HR.out HB.out) (k : Int) (by omega) (by omega)
      simp only [Int.toNat_natCast] at hcs
      have hx : rd_T33 l0 (k : Int) = l0.getD k z33 := by simp [rd_T33]
      obtain ⟨x, hxx⟩ : ∃ x, x = rd_T33 l0 (k : Int) := ⟨_, rfl⟩
      rw [← hxx] at hcs hx
      have HX := Aside0.mk hx
      clear hx hxx
      obtain ⟨b0, b1, b2⟩ := hcs
      cases hp : shutL x with
      | true =>
        have HP := Aside0.mk hp
        have hc := fun W => shut_any x W
        rw [hp] at hc
        clear hp
        go_wp2_with (go_at_call 34; refine (hc _).mono ?_; rintro e w1 ⟨rfl, hb⟩; have HB2 := Aside0.mk hb; clear hb hc)
        go_ret
        exact ⟨by rw [idxS_some hlt HN.out (by rw [← HX.out]; exact HP.out)]; rfl, below_then HB.out HB.out.size HB2.out⟩
      | false =>
        have HP := Aside0.mk hp
        have hc := fun W => shut_any x W
        rw [hp] at hc
        clear hp
        go_wp2_with (go_at_call 34; refine (hc _).mono ?_; rintro e w1 ⟨rfl, hb⟩; have HB2 := Aside0.mk hb; clear hb hc)
        refine ⟨⟨k + 1, by omega, by go_num, ⟨fun y hy => ?_⟩, ⟨below_then HB.out HB.out.size HB2.out⟩⟩, by simp [intOf]; omega⟩
        rw [List.take_succ_eq_append_getElem hlt, List.mem_append] at hy
        rcases hy with hy | hy
        · exact HN.out y hy
        · have e1 : y = l0[k] := by simpa using hy
          have e2 : l0.getD k z33 = l0[k] := by simp [hlt]
          rw [e1, ← e2, ← HX.out]; exact HP.out
    · obtain rfl : k = l0.length := by omega
      have hn := HN.out
      rw [List.take_length] at hn
      have HN2 := Aside0.mk hn
      clear hn HN
      go_wp2
      go_ret
      exact ⟨by rw [idxS_none HN2.out]; rfl, HB.out⟩


/-! #### Lines in a block -/
def atL (h : List Line) (m : Nat) : Line := h.getD m z33
theorem atL_get {h : List Line} {m : Nat} (hm : m < h.length) : atL h m = h[m] := by simp [atL, hm]
def flatL : List Line → List Value
  | [] => []
  | d :: r => .int .i64 d.f0 :: .int .i64 d.f1 :: .int .i64 d.f2 :: flatL r
theorem flatL_length : ∀ h : List Line, (flatL h).length = h.length * 3
  | [] => rfl
  | d :: r => by simp [flatL, flatL_length r]; omega
theorem flatL_get : ∀ (h : List Line) (i : Nat), i < h.length → (flatL h)[i * 3]? = some (.int .i64 (atL h i).f0) ∧ (flatL h)[i * 3 + 1]? = some (.int .i64 (atL h i).f1) ∧ (flatL h)[i * 3 + 2]? = some (.int .i64 (atL h i).f2)
  | [], i, hi => absurd hi (by simp)
  | d :: r, 0, hi => by simp [flatL, atL]
  | d :: r, i + 1, hi => by
    have := flatL_get r i (by simpa using hi)
    have e1 : (i + 1) * 3 = i * 3 + 1 + 1 + 1 := by omega
    rw [e1]
    simpa [flatL, atL] using this
theorem flatL_set : ∀ (h : List Line) (i : Nat) (d : Line), i < h.length → flatL (h.set i d) = (((flatL h).set (i * 3) (.int .i64 d.f0)).set (i * 3 + 1) (.int .i64 d.f1)).set (i * 3 + 2) (.int .i64 d.f2)
  | [], i, d, hi => absurd hi (by simp)
  | x :: r, 0, d, hi => by simp [flatL]
  | x :: r, i + 1, d, hi => by
    have := flatL_set r i d (by simpa using hi)
    have e1 : (i + 1) * 3 = i * 3 + 1 + 1 + 1 := by omega
    rw [e1]
    simp [flatL, this]
theorem flatL_take : ∀ (h : List Line) (m : Nat), flatL (h.take m) = (flatL h).take (m * 3)
  | [], m => by simp [flatL]
  | d :: r, 0 => by simp [flatL]
  | d :: r, m + 1 => by
    have e1 : (m + 1) * 3 = m * 3 + 1 + 1 + 1 := by omega
    simp [flatL, flatL_take r m, e1]
theorem reps_flat {w : World} {base : Nat} {ok : Nat → Prop} : ∀ (h : List Line) (cs : List Value), Reps (k33.M w base ok) 3 h cs → cs = flatL h
  | [], cs, hr => by have := hr.1; exact List.length_eq_zero_iff.1 (by simpa using this)
  | d :: r, cs, hr => by
    have h0 := k33_openM (hr.2 0 d rfl)
    have h1 : Reps (k33.M w base ok) 3 r (cs.drop 3) := by
      have := Kd.reps_drop (m := 1) hr
      simpa using this
    have h2 := reps_flat r _ h1
    rw [Nat.zero_mul, List.drop_zero] at h0
    rw [← List.take_append_drop 3 cs, h0, h2]
    rfl
theorem flat_reps (w : World) (base : Nat) (ok : Nat → Prop) : ∀ h : List Line, Reps (k33.M w base ok) 3 h (flatL h)
  | [] => Reps.none _ _
  | d :: r => Reps.front (k33_mkM w base ok d) rfl (flat_reps w base ok r) rfl
/-- A block with as many lines as it has room for; the first of them are h. -/
def ArrL (w : World) (g cap : Nat) (h : List Line) : Prop :=
  ∃ cur, w.heap[g]? = some (.cells cur 33 (0, 0)) ∧ h.length ≤ cap ∧ cap ≤ maxLen ∧ cur.size = cap * 3 ∧ cur.toList.take (h.length * 3) = flatL h
theorem ArrL.of_R {w : World} {base n cap : Nat} {ok : Nat → Prop} {A : Option Addr} {h : List Line} (hR : k33.R 33 w base ok (.slice A n cap) h) (hn : 0 < n) : ∃ g, A = some ⟨g, 0, none⟩ ∧ base ≤ g ∧ ArrL w g cap h ∧ ok g := by
  obtain ⟨hl, g, inner, rfl, hb, hrow, hreps, _, hok⟩ := R_rowed hR hn (Nat.succ_pos 2)
  obtain ⟨h0, cur, h1, h2, h3, h4, h5⟩ := hrow
  refine ⟨g, rfl, hb, ⟨cur, h1, by omega, h3, h4, ?_⟩, hok⟩
  rw [← hl, ← reps_flat h inner hreps]; exact h5
theorem ArrL.to_R {w : World} {base g cap : Nat} {ok : Nat → Prop} {h : List Line} (k : ArrL w g cap h) (hb : base ≤ g) (hok : ok g) : k33.R 33 w base ok (.slice (some ⟨g, 0, none⟩) h.length cap) h := by
  obtain ⟨cur, h1, h2, h3, h4, h5⟩ := k
  exact R_of_rowed hb ⟨flatL_length h, cur, h1, h2, h3, h4, h5⟩ (flat_reps w base _ h) hok
theorem ArrL.kept {w W : World} {g cap : Nat} {h : List Line} {S : Nat → Prop} (k : ArrL w g cap h) (hw : Went S w W) (hn : ¬ S g) : ArrL W g cap h := by
  obtain ⟨cur, h1, h2⟩ := k
  exact ⟨cur, hw.block h1 hn, h2⟩
theorem ArrL.lt {w : World} {g cap : Nat} {h : List Line} (k : ArrL w g cap h) : g < w.heap.size := by
  obtain ⟨cur, h1, h2⟩ := k
  exact (Array.getElem?_eq_some_iff.1 h1).1
theorem ArrL.cells {w : World} {g cap : Nat} {h : List Line} (k : ArrL w g cap h) (i : Nat) (hi : i < h.length) :
    w.cell? ⟨g, i * 3, none⟩ = some (.int .i64 (atL h i).f0) ∧ w.cell? ⟨g, i * 3 + 1, none⟩ = some (.int .i64 (atL h i).f1) ∧ w.cell? ⟨g, i * 3 + 2, none⟩ = some (.int .i64 (atL h i).f2) ∧ w.frozen? ⟨g, i * 3, none⟩ = false ∧ w.frozen? ⟨g, i * 3 + 1, none⟩ = false ∧ w.frozen? ⟨g, i * 3 + 2, none⟩ = false := by
  obtain ⟨cur, h1, h2, h3, h4, h5⟩ := k
  obtain ⟨c0, c1, c2⟩ := flatL_get h i hi
  rw [← h5, List.getElem?_take] at c0 c1 c2
  rw [if_pos (by omega)] at c0 c1 c2
  refine ⟨by rw [cell_of_row _ _ _ _ _ _ h1]; simpa using c0, by rw [cell_of_row _ _ _ _ _ _ h1]; simpa using c1, by rw [cell_of_row _ _ _ _ _ _ h1]; simpa using c2, ?_, ?_, ?_⟩
  · simp [World.frozen?, h1]
  · simp [World.frozen?, h1]
  · simp [World.frozen?, h1]
theorem heap_setCellL {w : World} {g o : Nat} {cur : Array Value} {e : TypeId} (h : w.heap[g]? = some (.cells cur e (0, 0))) (u : Value) :
    (w.setCell ⟨g, o, none⟩ u).heap[g]? = some (.cells (cur.setIfInBounds o u) e (0, 0)) := by
  simp [World.setCell, Array.getElem?_modify, h]
theorem ArrL.set {w : World} {g cap : Nat} {h : List Line} (k : ArrL w g cap h) (i : Nat) (hi : i < h.length) (d : Line) :
    ArrL (((w.setCell ⟨g, i * 3, none⟩ (.int .i64 d.f0)).setCell ⟨g, i * 3 + 1, none⟩ (.int .i64 d.f1)).setCell ⟨g, i * 3 + 2, none⟩ (.int .i64 d.f2)) g cap (h.set i d) := by
  obtain ⟨cur, h1, h2, h3, h4, h5⟩ := k
  refine ⟨_, heap_setCellL (heap_setCellL (heap_setCellL h1 _) _) _, by simpa using h2, h3, by simpa using h4, ?_⟩
  rw [flatL_set h i d hi, ← h5]
  simp [List.take_set]
theorem clear_arrL (g cap : Nat) (h : List Line) (i : Nat) (w : World) (hA : ArrL w g cap h) (hi : i < h.length) :
    ∃ W, (∀ ty, (Builtin.clear_ #[23] ty #[.slice (some ⟨g, i * 3, none⟩) (h.length - i) (cap - i)]).run Try.prog w = .ok (.tuple #[]) W) ∧ ArrL W g cap (h.take i) ∧ Went (fun k => k = g) w W := by
  obtain ⟨cur, h1, h2, h3, h4, h5⟩ := hA
  obtain ⟨vs, hvs⟩ : ∃ vs, vs = (Builtin.zeroCells #[Value.int .i64 0, Value.int .i64 0, Value.int .i64 0] (h.length - i)).toList := ⟨_, rfl⟩
  have hlen : vs.length = (h.length - i) * 3 := by rw [hvs]; simp [Builtin.zeroCells]
  have hone : ∀ v ∈ vs, v.oneCell' = true := by
    intro v hv
    rw [hvs] at hv
    simp only [Builtin.zeroCells, Array.toList_map, Array.toList_range, List.mem_map, List.mem_range] at hv
    obtain ⟨k, _, rfl⟩ := hv
    have e : ∀ m, m < 3 → (#[Value.int .i64 0, Value.int .i64 0, Value.int .i64 0][m]!).oneCell' = true := by
      intro m hm
      rcases m with _ | _ | _ | m
      · rfl
      · rfl
      · rfl
      · omega
    exact e _ (Nat.mod_lt _ (by decide))
  have hst := run_storeCells_at Try.prog g (i * 3) 33 vs 0 cur w h1 (by omega) hone
  simp only [Nat.add_zero] at hst
  refine ⟨w.setRow g (cur.toList.take (i * 3) ++ vs ++ cur.toList.drop (i * 3 + vs.length)).toArray, fun ty => ?_, ?_, ?_⟩
  · obtain ⟨m, hm⟩ : ∃ m, h.length - i = m + 1 := ⟨h.length - i - 1, by omega⟩
    rw [hm] at hvs ⊢
    simp [Builtin.clear_, run_underlying Try.underlying23, - List.append_assoc]
    show ((Sem.run Try.prog (storeCells ⟨g, i * 3, none⟩ (Builtin.zeroCells #[Value.int .i64 0, Value.int .i64 0, Value.int .i64 0] (m + 1)).toList) w).andThen fun a w' => Result.ok (Value.tuple #[]) w') = _
    rw [← hvs, hst]
    rfl
  · refine ⟨_, setRow_heap _ _ _ _ _ _ h1, by simp; omega, h3, ?_, ?_⟩
    · simp [hlen]; omega
    · have hl : (h.take i).length = i := by simp; omega
      rw [hl, flatL_take, ← h5, List.take_take, Nat.min_eq_left (by omega)]
      have hlen1 : (cur.toList.take (i * 3)).length = i * 3 := by simp; omega
      show List.take (i * 3) (cur.toList.take (i * 3) ++ vs ++ cur.toList.drop (i * 3 + vs.length)) = _
      rw [List.append_assoc, List.take_append_of_le_length (by omega), List.take_of_length_le (by omega)]
  · exact ⟨rfl, rfl, rfl, by simp, fun k hk hne => setRow_other _ _ _ _ hne⟩

theorem filter_all {p : Line → Bool} {h : List Line} (hn : ∀ m, m < h.length → p (atL h m) = false) : h.filter (fun d => !p d) = h := by
  rw [List.filter_eq_self]
  intro a ha
  obtain ⟨m, hm, rfl⟩ := List.getElem_of_mem ha
  have := hn m hm
  rw [atL_get hm] at this
  rw [this]; rfl
theorem filter_first {p : Line → Bool} {h : List Line} {k : Nat} (hk : k < h.length) (hn : ∀ m, m < k → p (atL h m) = false) (hp : p (atL h k) = true) : (h.take (k + 1)).filter (fun d => !p d) = h.take k := by
  rw [List.take_succ_eq_append_getElem hk, List.filter_append]
  have e1 : (h.take k).filter (fun d => !p d) = h.take k := filter_all (fun m hm => by
    have hm' : m < k := by simp at hm; omega
    have : atL (h.take k) m = atL h m := by simp [atL, List.getD_eq_getElem?_getD, hm']
    rw [this]; exact hn m hm')
  rw [e1]
  rw [atL_get hk] at hp
  simp [hp]
theorem filter_next {p : Line → Bool} {h : List Line} {j : Nat} (hj : j < h.length) : (h.take (j + 1)).filter (fun d => !p d) = (h.take j).filter (fun d => !p d) ++ (if p (atL h j) = true then [] else [atL h j]) := by
  rw [List.take_succ_eq_append_getElem hj, List.filter_append, atL_get hj]
  cases hp : p h[j] <;> simp [hp]
theorem take_set_same {l : List Line} {i : Nat} (x : Line) (hi : i < l.length) : (l.set i x).take (i + 1) = l.take i ++ [x] := by
  rw [List.take_succ_eq_append_getElem (by simpa using hi)]
  simp [List.take_set_of_le]
theorem atL_drop {l h : List Line} {j : Nat} (e : l.drop j = h.drop j) (hl : l.length = h.length) (hj : j < h.length) : atL l j = atL h j := by
  rw [atL_get hj, atL_get (by omega)]
  have := congrArg (fun x => x[0]?) e
  simp only [List.getElem?_drop] at this
  simpa [List.getElem?_eq_getElem, hj, hl] using this
theorem idxS_cases (h : List Line) : (∃ k : Nat, k < h.length ∧ idxS h = (k : Int) ∧ (∀ m, m < k → shutL (atL h m) = false) ∧ shutL (atL h k) = true) ∨ (idxS h = -1 ∧ ∀ m, m < h.length → shutL (atL h m) = false) := by
  unfold idxS
  cases ha : h.any shutL with
  | false =>
    refine .inr ⟨rfl, fun m hm => ?_⟩
    have := List.any_eq_false.1 ha _ (List.getElem_mem hm)
    rw [atL_get hm]; simpa using this
  | true =>
    obtain ⟨x, hx, hp⟩ := List.any_eq_true.1 ha
    have hlt : h.findIdx shutL < h.length := List.findIdx_lt_length_of_exists ⟨x, hx, hp⟩
    refine .inl ⟨h.findIdx shutL, hlt, rfl, fun m hm => ?_, ?_⟩
    · rw [atL_get (by omega)]
      have := List.not_of_lt_findIdx hm
      simpa using this
    · rw [atL_get hlt]; exact List.findIdx_getElem
set_option maxRecDepth 100000 in
set_option maxHeartbeats 8000000 in
theorem delF_any (g cap : Nat) (h : List Line) (w : World) (hA : ArrL w g cap h) (hn : h.length ≤ 1099511627776) (hpos : 0 < h.length) :
    Calls Try.prog 32 #[.slice (some ⟨g, 0, none⟩) h.length cap, .func (.func 34) #[] #[]] w fun e w' =>
      e = .returned (.slice (some ⟨g, 0, none⟩) (h.filter (fun d => !shutL d)).length cap) ∧ ArrL w' g cap (h.filter (fun d => !shutL d)) ∧ Went (fun k => k = g) w w' := by
  have hidx := indexS_any (some ⟨g, 0, none⟩) cap h w (Kd.R_reads' (ok := fun _ => True) (hA.to_R (Nat.zero_le _) trivial)).2.2 (by obtain ⟨cur, _, h2, _⟩ := hA; exact h2)
  have HA := Aside0.mk hA
  have hcap : h.length ≤ cap := by obtain ⟨cur, _, h2, _⟩ := hA; exact h2
  have hmax : cap ≤ 9223372036854775807 := by obtain ⟨cur, _, _, h3, _⟩ := hA; simpa [maxLen] using h3
  have hgl := hA.lt
  clear hA
  go_enter Try.func32, Try.ntmps32
  go_wp2_with fail
  go_at_call 42
  refine hidx.mono ?_
  rintro e w1 ⟨rfl, hb⟩
  have HB := Aside0.mk hb
  clear hidx hb
  rcases idxS_cases h with ⟨k, hk, hik, hfirst, hhit⟩ | ⟨hik, hnone⟩
  · rw [hik]
    clear hik
    have hk1 : ((k : Int) == -1) = false := beq_eq_false_iff_ne.2 (by omega)
    have HF := Aside0.mk (filter_first hk hfirst hhit)
    clear hfirst hhit
    clear hmax
    go_wp2
    go_loopw [5, 6] (fun iv jv wr => ∃ (i j : Nat) (l : List Line), iv = .int .i64 i ∧ jv = .int .i64 j ∧ i < j ∧ j ≤ h.length ∧ Aside0 (l.length = h.length) ∧ Aside0 (l.take i = (h.take j).filter (fun d => !shutL d)) ∧ Aside0 (l.drop j = h.drop j) ∧ Aside0 (ArrL wr g cap l) ∧ Aside0 (Went (fun k => k = g) w wr)) (fun _ jv _ => h.length - (intOf jv).toNat)
    case atStart => exact ⟨k, k + 1, h, rfl, by go_num, by omega, by omega, ⟨rfl⟩, ⟨HF.out.symm⟩, ⟨rfl⟩, ⟨HA.out.kept (Went.of_below HB.out (fun _ => False)) (fun h => h)⟩, ⟨Went.of_below HB.out _⟩⟩
    case round =>
      clear HF HA HB hk1 hk
      obtain ⟨i, j, l, rfl, rfl, hij, hj, HL, HT, HD, HA, HW⟩ := hrel
      by_cases hlt : j < h.length
      · obtain ⟨c0, c1, c2, _, _, _⟩ := HA.out.cells j (by have := HL.out; omega)
        have hcl := fun W => shut_any (atL l j) W
        have hx : atL l j = atL h j := atL_drop HD.out HL.out hlt
        have hfn := filter_next (p := shutL) hlt
        rw [← hx] at hfn
        generalize atL l j = x at c0 c1 c2 hcl hx hfn
        have hgw : g < wr.heap.size := HA.out.lt
        cases hp : shutL x with
        | true =>
          rw [hp] at hcl hfn
          have HX := Aside0.mk hx
          have HN := Aside0.mk hfn
          clear hp hx hfn
          go_wp2_with (go_at_call 34; refine (hcl _).mono ?_; rintro e w2 ⟨rfl, hb⟩; have HB2 := Aside0.mk hb; clear hb hcl)
          have hbb : Below wr.heap.size wr w2 := below_then ((Below.refl _ _).alloc (Nat.le_refl _) _) (by simp) HB2.out
          refine ⟨⟨i, j + 1, l, rfl, by go_num, by omega, by omega, HL, ⟨by rw [HT.out, HN.out]; simp⟩, ⟨by rw [← List.drop_drop, HD.out, List.drop_drop]⟩, ⟨HA.out.kept (Went.of_below hbb (fun _ => False)) (fun h => h)⟩, ⟨HW.out.trans (Went.of_below hbb (fun _ => False)) (fun _ h => h) (fun _ h => h.elim)⟩⟩, by simp [intOf]; omega⟩
        | false =>
          rw [hp] at hcl hfn
          have HX := Aside0.mk hx
          have HN := Aside0.mk hfn
          clear hp hx hfn
          have hil : (i : Int) < (h.length : Int) := by omega
          go_wp2_with (go_at_call 34; refine (hcl _).mono ?_; rintro e w2 ⟨rfl, hb⟩; have HB2 := Aside0.mk (below_then ((Below.refl _ _).alloc (Nat.le_refl _) _) (by simp) hb : Below wr.heap.size wr w2); obtain ⟨d0, d1, d2, d3, d4, d5⟩ := (HA.out.kept (Went.of_below HB2.out (fun _ => False)) (fun h => h)).cells i (by have := HL.out; omega); obtain ⟨v0, v1, v2⟩ : w2.cell? ⟨wr.heap.size, 0, none⟩ = some (.int .i64 x.f0) ∧ w2.cell? ⟨wr.heap.size, 1, none⟩ = some (.int .i64 x.f1) ∧ w2.cell? ⟨wr.heap.size, 2, none⟩ = some (.int .i64 x.f2) := ⟨(hb.cell (by simp)).trans (by rw [cell_of_row _ _ _ _ _ _ (heap_alloc_new wr _)]; rfl), (hb.cell (by simp)).trans (by rw [cell_of_row _ _ _ _ _ _ (heap_alloc_new wr _)]; rfl), (hb.cell (by simp)).trans (by rw [cell_of_row _ _ _ _ _ _ (heap_alloc_new wr _)]; rfl)⟩; clear hb hcl)
          have hA2 := HA.out.kept (Went.of_below HB2.out (fun _ => False)) (fun h => h)
          have hw3 : Went (fun k => k = g) w2 (((w2.setCell ⟨g, i * 3, none⟩ (.int .i64 x.f0)).setCell ⟨g, i * 3 + 1, none⟩ (.int .i64 x.f1)).setCell ⟨g, i * 3 + 2, none⟩ (.int .i64 x.f2)) := (((Went.refl (fun k => k = g) w2).setq (.inl rfl) _).setq (.inl rfl) _).setq (.inl rfl) _
          have hw2 : Went (fun k => k = g) w w2 := HW.out.trans (Went.of_below HB2.out (fun _ => False)) (fun _ h => h) (fun _ h => h.elim)
          refine ⟨⟨i + 1, j + 1, l.set i x, by go_num, by go_num, by omega, by omega, ⟨by simpa using HL.out⟩, ⟨?_⟩, ⟨?_⟩, ⟨hA2.set i (by have := HL.out; omega) x⟩, ⟨hw2.trans hw3 (fun _ h => h) (fun _ h => .inl h)⟩⟩, by simp [intOf]; omega⟩
          · rw [take_set_same x (by have := HL.out; omega), HT.out, HN.out]; simp
          · rw [List.drop_set_of_lt (by omega), ← List.drop_drop, HD.out, List.drop_drop]
      · obtain rfl : j = h.length := by omega
        have hll := HL.out
        obtain ⟨W, hrun, hA2, hW2⟩ := clear_arrL g cap l i wr HA.out (by omega)
        rw [hll] at hrun
        have hci : ¬ cap = i := by omega
        have hic : (i : Int) ≤ (h.length : Int) := by omega
        have HA2 := Aside0.mk hA2
        have HW2 := Aside0.mk hW2
        clear hA2 hW2 hll
        go_wp2
        go_ret
        have e : l.take i = h.filter (fun d => !shutL d) := by rw [HT.out, List.take_length]
        have hli : i = (h.filter (fun d => !shutL d)).length := by rw [← e]; have := HL.out; simp; omega
        refine ⟨?_, by rw [← e]; exact HA2.out, HW.out.trans HW2.out (fun _ h => h) (fun _ h => .inl h)⟩
        rw [← hli]; rfl
  · rw [hik]
    clear hik
    have HF := Aside0.mk (filter_all hnone)
    clear hnone
    have hm1 : ((-1 : Int) == -1) = true := rfl
    go_wp2
    go_ret
    exact ⟨by rw [HF.out]; rfl, by rw [HF.out]; exact HA.out.kept (Went.of_below HB.out (fun _ => False)) (fun h => h), Went.of_below HB.out _⟩
theorem deleteF_R {w0 w : World} (v : Value) (l : List Line) (base : Nat) {ok : Nat → Prop} (hR : k33.R 33 w base ok v l) (hpos : 0 < l.length) (hn : l.length ≤ 1099511627776) (hB : Below base w0 w) :
    Calls Try.prog 32 #[v, .func (.func 34) #[] #[]] w fun e w' => ∃ v', e = .returned v' ∧ k33.R 33 w' base ok v' (l.filter openL) ∧ Below base w0 w' := by
  obtain ⟨A, c, rfl⟩ := Kd.R_slice hR
  obtain ⟨g, rfl, hb, hA, hok⟩ := ArrL.of_R hR hpos
  have e : l.filter (fun d => !shutL d) = l.filter openL := by congr 1; funext d; unfold shutL; simp
  have p := delF_any g c l w hA hn hpos
  rw [e] at p
  refine p.mono ?_
  rintro e w' ⟨rfl, h1, h2⟩
  exact ⟨_, rfl, h1.to_R hb hok, h2.below hB (Nat.le_trans hb (Nat.le_of_lt hA.lt)) (fun k hk => by subst hk; exact hb)⟩
end Go.Proofs.Ytjhdjkanepdgiaa.Book
