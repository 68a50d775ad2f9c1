/- A number is put: digit by digit behind what was put. No conditions beside those that each theorem states. -/
import Derived.Test.YtamgeophebillaaCodeDigits
import Derived.Shelf.Abstract
namespace Go.Proofs.Ytamgeophebillaa.Code
open Go.RowKit Go.Proofs.Ytamgeophebillaa.Pa Go.Proofs.YtamgeophebillaaW.PrintWords Go.Proofs.YtamgeophebillaaW.PrintLast Go.Proofs.YtamgeophebillaaW.PrintMore Go.Proofs.Ytamgeophebillaa.Range
attribute [local go_sem] Oper.semAt_some
set_option linter.unusedVariables false

section
variable {P : Program} {Q : Exit → Act → World → Prop} {md : Region.Mode} {S : World → Prop}
theorem takeL {l : List Oper} {i : Nat} {oi : Oper} {v : Value} {fuel : Nat} {listed : Array Bool} {a : Act} {w : World} (hi : l[i]? = some oi)
    (hs : Region.noSelect l.toArray = true) (hf : Region.free md l.toArray listed i = true) (hr : (Region.ready md l.toArray listed).contains i = true)
    (hQ : ∀ c a w, Q (.panic c) (a.put oi.dst v) w → Q (.panic c) a w) (hy : YieldsIf P l.toArray S oi v a) (hS : S w)
    (h : wpAnyH P md l.toArray Q S fuel (listed.setIfInBounds i true) (a.put oi.dst v) w) : wpAnyH P md l.toArray Q S (fuel + 1) listed a w :=
  wpAnyH_take (by simpa using hi) hs hf hr hQ hy hS h
theorem consL {l : List Oper} {fuel : Nat} {listed : Array Bool} {a : Act} {w : World} {i : Nat} {o : Oper} {rs : List Nat} (ho : l[i]? = some o)
    (h : ∀ K' : Act → World → Prop, Shut (∀ a w, S w → (S w → wpAnyH P md l.toArray Q S fuel (listed.setIfInBounds i true) a w) → K' a w) → if Region.wanted o (yielded l.toArray a.tmps) = true then Oper.wp P o a w K' Q else K' (a.put o.dst undef) w)
    (hs : AllReadyH P md l.toArray Q S fuel listed a w rs) : AllReadyH P md l.toArray Q S fuel listed a w (i :: rs) := AllReadyH.cons (by simpa using ho) h hs
end
theorem R_putObj {w : World} {ok : Nat → Prop} {v : Value} {bs : List Int} (h : Kd.R (Kd.int .u8) 5 w 0 ok v bs) {l : Nat} {o : Obj} (o' : Obj) (hl : w.heap[l]? = some o) (ho : o.isCells = false) : Kd.R (Kd.int .u8) 5 (w.putObj l o') 0 ok v bs :=
  Kd.R_of_own (ownsRow_putObj (Kd.own_of_R h) o' hl ho) h.1

/-- Between two rounds: m is left, pre has come. -/
def Mid (w : World) (q B : Nat) (F : Nat → Prop) (bs : List Int) (m : Nat) (pre : List Int) (W : World) : Prop :=
  (∃ A cap, Head W q A (bs ++ pre).length cap ∧ Kd.R (Kd.int .u8) 5 W 0 (fun k => (F k ∨ w.heap.size ≤ k) ∧ k ≠ q ∧ k ≠ B) (.slice A (bs ++ pre).length cap) (bs ++ pre)) ∧ Went (fun k => F k ∨ k = B) w W ∧ Box W B m
theorem Mid.putObj {w : World} {q B : Nat} {F : Nat → Prop} {bs : List Int} {m : Nat} {pre : List Int} {W : World} (h : Mid w q B F bs m pre W) (l : Nat) (o o' : Obj) (hl : w.heap.size ≤ l) (hW : W.heap[l]? = some o) (ho : o.isCells = false) : Mid w q B F bs m pre (W.putObj l o') := by
  obtain ⟨⟨A, cap, h1, h2⟩, h3, h4⟩ := h
  have hne : ∀ (k : Nat) (o2 : Obj), W.heap[k]? = some o2 → o2.isCells = true → (W.putObj l o').heap[k]? = some o2 := fun k o2 h k2 => by
    rw [World.putObj_heap_other (fun e => by subst e; rw [hW] at h; cases h; rw [ho] at k2; cases k2)]
    exact h
  exact ⟨⟨A, cap, hne _ _ h1 rfl, R_putObj h2 _ hW ho⟩, h3.putObj hl _, hne _ _ h4 rfl⟩
theorem Mid.setBox {w : World} {q B : Nat} {F : Nat → Prop} {bs : List Int} {m : Nat} {pre : List Int} {W : World} (h : Mid w q B F bs m pre W) (hq : q ≠ B) (m' : Nat) : Mid w q B F bs m' pre (W.setCell ⟨B, 0, none⟩ (.int .u64 (m' : Int))) := by
  obtain ⟨⟨A, cap, h1, h2⟩, h3, h4⟩ := h
  have hs : Went (fun k => k = B) W (W.setCell ⟨B, 0, none⟩ (.int .u64 (m' : Int))) := Went.setq (S := fun k => k = B) (Went.refl _ W) (.inl rfl) _
  exact ⟨⟨A, cap, h1.kept hs hq, Kd.R_kept h2 hs.kept (fun k hk e => hk.2.2 e)⟩, h3.trans hs (fun _ h => h) (fun k hk => .inl (.inr hk)), h4.set _⟩
theorem Mid.start {w : World} {q B N : Nat} {F : Nat → Prop} {bs : List Int} (h : Out w q F bs) (hb : Box w B N) (hB : ¬ F B) : Mid w q B F bs N [] w := by
  obtain ⟨A, cap, h1, h2, h3, h4⟩ := h
  refine ⟨⟨A, cap, ?_, ?_⟩, Went.refl _ _, hb⟩
  · rw [List.append_nil]; exact h1
  · rw [List.append_nil]; exact Kd.R_mono h2 (fun k hk => ⟨.inl hk.1, hk.2, fun e => hB (e ▸ hk.1)⟩)
theorem Mid.alloc {w : World} {q B : Nat} {F : Nat → Prop} {bs : List Int} {m : Nat} {pre : List Int} {W : World} (h : Mid w q B F bs m pre W) (o : Obj) : Mid w q B F bs m pre (W.alloc o) := by
  obtain ⟨⟨A, cap, h1, h2⟩, h3, h4⟩ := h
  have hs : Went (fun _ => False) W (W.alloc o) := (Went.refl _ W).alloc o
  exact ⟨⟨A, cap, h1.kept hs (fun e => e), Kd.R_kept h2 hs.kept (fun k hk e => e)⟩, h3.alloc o, hs.block h4 (fun e => e)⟩
theorem Mid.out {w w0 W : World} {q B m : Nat} {F : Nat → Prop} {bs cs : List Int} (h : Mid w q B F bs m cs W) (hb : Below w0.heap.size w0 w) (hF : ∀ k, F k → k < w0.heap.size) (hq : F q) (h0 : w0.heap.size ≤ w.heap.size) (hB : w0.heap.size ≤ B) : OutTurned w0 q F (bs ++ cs) W := by
  obtain ⟨⟨A, cap, h1, h2⟩, h3, h4⟩ := h
  refine ⟨fun k => k = q ∨ ((F k ∨ w0.heap.size ≤ k) ∧ k < W.heap.size), ⟨A, cap, h1, Kd.R_mono (Kd.R_bound h2) (fun k hk => ⟨.inr ⟨?_, hk.2.2.1⟩, hk.1.2.1⟩), .inl rfl, fun k hk => ?_⟩, fun k hk => ?_, (Went.of_below hb (fun _ => False)).trans h3 (fun _ h => h.elim) (fun k hk => ?_)⟩
  · rcases hk.1.1 with h | h
    · exact .inl h
    · exact .inr (Nat.le_trans h0 h)
  · rcases hk with rfl | hk
    · exact h1.lt
    · exact hk.2
  · rcases hk with rfl | hk
    · exact .inl hq
    · exact hk.1
  · rcases hk with h | rfl
    · exact .inl h
    · exact .inr hB
/-- What a round leaves. -/
theorem Mid.stored {w W w1 : World} {q B m : Nat} {F : Nat → Prop} {bs pre : List Int} {x : Int} {A A1 : Option Addr} {cap c1 : Nat} (hF : ∀ k, F k → k < w.heap.size) (hq : F q) (hB : B < w.heap.size) (hBq : q ≠ B) (h1 : Head W q A (bs ++ pre).length cap) (h2 : Kd.R (Kd.int .u8) 5 W 0 (fun k => (F k ∨ w.heap.size ≤ k) ∧ k ≠ q ∧ k ≠ B) (.slice A (bs ++ pre).length cap) (bs ++ pre)) (h3 : Went (fun k => F k ∨ k = B) w W) (h4 : Box W B m)
    (ho : Kd.R (Kd.int .u8) 5 w1 0 (fun k => (F k ∨ w.heap.size ≤ k) ∧ k ≠ q ∧ k ≠ B) (.slice A1 ((bs ++ pre) ++ [x]).length c1) ((bs ++ pre) ++ [x])) (hg : W.grownBy w1 (Value.slice A (bs ++ pre).length cap).ownBlock) :
    KeepsOthers W (w1.setCell ⟨q, 0, none⟩ (.slice A1 ((bs ++ pre) ++ [x]).length c1)) ∧ Mid w q B F bs m (pre ++ [x]) (w1.setCell ⟨q, 0, none⟩ (.slice A1 ((bs ++ pre) ++ [x]).length c1)) := by
  have hr := h2.1
  have hne : some q ≠ (Value.slice A (bs ++ pre).length cap).ownBlock := fun e => (hr q e.symm).2.1 rfl
  have hnB : some B ≠ (Value.slice A (bs ++ pre).length cap).ownBlock := fun e => (hr B e.symm).2.2 rfl
  have hh : Head w1 q A (bs ++ pre).length cap := (hg.block q h1.lt hne).trans h1
  have hs : Went (fun k => k = q) w1 (w1.setCell ⟨q, 0, none⟩ (.slice A1 ((bs ++ pre) ++ [x]).length c1)) := Went.setq (S := fun k => k = q) (Went.refl _ w1) (.inl rfl) _
  have hw1 : Went (fun k => F k ∨ k = B) w w1 := h3.grown hg (fun k e => by rcases (hr k e).1 with h | h; exact .inl (.inl h); exact .inr h)
  refine ⟨(KeepsOthers.of_grownBy hg (fun j o e he => ?_)).trans (KeepsOthers.setCell _ _ _), ⟨A1, c1, ?_, ?_⟩, hw1.trans hs (fun _ h => h) (fun k hk => by subst hk; exact .inl (.inl hq)), ?_⟩
  · obtain ⟨_, _, _, _, _, cells, hc⟩ := (Kd.R_bound h2).1 j e
    rw [hc] at he
    cases he
    rfl
  · rw [← List.append_assoc]; exact hh.set _ _ _
  · rw [← List.append_assoc]
    exact Kd.R_kept ho hs.kept (fun k hk e => hk.2.1 e)
  · have hb : B < W.heap.size := Nat.lt_of_lt_of_le hB h3.size
    exact hs.block ((hg.block B hb hnB).trans h4) (fun e => hBq e.symm)

set_option maxRecDepth 100000 in
set_option maxHeartbeats 8000000 in
theorem put_any (q N : Nat) (F : Nat → Prop) (bs : List Int) (w : World) (hO : Out w q F bs) (hN : N < 18446744073709551616) (hl : bs.length ≤ 1099511627776) :
    Calls Try.prog 33 #[.pointer (some ⟨q, 0, none⟩), .int .u64 (N : Int)] w fun e w' => e = .returned (.tuple #[]) ∧ OutTurned w q F (bs ++ digs N) w' := by
  have hd := digits_any (N : Int)
  have HN := Aside0.mk hN
  have ZN := Aside0.mk (rfl : (N : Int) = (N : Int))
  clear hN
  refine (callsIn_wide (n := 3)).1 ?_
  refine callsIn_of_wp_marks Try.func33 rfl trivial ?_
  simp only [Try.ntmps33, List.size_toArray, List.length_cons, List.length_nil, Nat.reduceAdd, Nat.reduceSub, Array.replicate_succ, Array.replicate_zero, List.push_toArray, List.append_toArray, List.nil_append, List.cons_append]
  gi_wp2_with (refine ⟨trivial, ?_⟩; gi_at_call 34; refine (callsIn_wide.2 (hd _)).mono ?_; rintro e w' ⟨rfl, rfl⟩)
  obtain ⟨bo, hbo⟩ : ∃ bo, bo = w.heap.size := ⟨_, rfl⟩
  obtain ⟨B, hB⟩ : ∃ B, B = bo + 1 := ⟨_, rfl⟩
  have hBel : Below w.heap.size w ((w.alloc (.cells #[.pointer (some ⟨q, 0, none⟩)] 25)).alloc (.cells #[.int .u64 (N : Int)] 63)) := ((Below.refl _ w).alloc (Nat.le_refl _) _).alloc (by simp) _
  have hO2 := hO.below hBel
  have hbox : Box ((w.alloc (.cells #[.pointer (some ⟨q, 0, none⟩)] 25)).alloc (.cells #[.int .u64 (N : Int)] 63)) B N := by
    unfold Box
    have := World.alloc_heap_new (w.alloc (.cells #[.pointer (some ⟨q, 0, none⟩)] 25)) (.cells #[.int .u64 (N : Int)] 63)
    rw [World.size_alloc, ← hbo, ← hB] at this
    exact this
  have hpt : ((w.alloc (.cells #[.pointer (some ⟨q, 0, none⟩)] 25)).alloc (.cells #[.int .u64 (N : Int)] 63)).heap[bo]? = some (.cells #[.pointer (some ⟨q, 0, none⟩)] 25 (0, 0)) := by
    rw [hbo]
    exact (Below.heap_alloc _ _ _ (by simp)).trans (World.alloc_heap_new w _)
  have hsz : ((w.alloc (.cells #[.pointer (some ⟨q, 0, none⟩)] 25)).alloc (.cells #[.int .u64 (N : Int)] 63)).heap.size = w.heap.size + 2 := by simp
  rw [← hbo, ← hB]
  generalize ((w.alloc (.cells #[.pointer (some ⟨q, 0, none⟩)] 25)).alloc (.cells #[.int .u64 (N : Int)] 63)) = W0 at *
  obtain ⟨_, _, _, _, hq, hFl⟩ := hO
  have hFl2 : ∀ k, F k → k < W0.heap.size := fun k hk => by have := hFl k hk; omega
  have hqB : q ≠ B := by have := hFl q hq; omega
  have hqo : q ≠ bo := by have := hFl q hq; omega
  have hoB : bo ≠ B := by omega
  have hFo : ¬ F bo := fun h => by have := hFl bo h; omega
  have hFB : ¬ F B := fun h => by have := hFl B h; omega
  have hm0 : Mid W0 q B F bs N [] W0 := Mid.start hO2 hbox hFB
  have hle0 : w.heap.size ≤ W0.heap.size := by omega
  have HS := Aside0.mk (And.intro hbo (And.intro hB hsz))
  clear hbo hB hsz
  refine range_all rfl (by omega) (gf := 35) (lb := #[.pointer (some ⟨B, 0, none⟩)]) rfl trivial (Go.Proofs.enters_of Try.func35 (by kernel_rfl) rfl) (α := Int) (encs := fun x => #[.int .u8 x]) (fun _ => rfl)
    (fun pre W => pre.length < (digs N).length ∧ Mid W0 q B F bs (N / 128 ^ pre.length) pre W) (fun pre W => Mid W0 q B F bs (N / 128 ^ (pre.length - 1)) pre W) (fun xs W => xs = digs N ∧ ∃ m, Mid W0 q B F bs m xs W)
    (fun pre W l o o' h1 h2 h3 h => ⟨h.1, h.2.putObj l o o' h1 h2 h3⟩) (fun pre W l o o' h1 h2 h3 h => h.putObj l o o' h1 h2 h3) (fun pre W l o o' h1 h2 h3 h => ⟨h.1, h.2.choose, h.2.choose_spec.putObj l o o' h1 h2 h3⟩)
    (fun o o' => ⟨digs_ne N, by simpa using (hm0.alloc o).alloc o'⟩)
    (fun x => { tmps := #[.pointer (some ⟨q, 0, none⟩), .int .u64 (N : Int), .pointer (some ⟨bo, 0, none⟩), undef, .int .u8 x, .int .u64 (N : Int), .func (.func 35) #[] #[.pointer (some ⟨B, 0, none⟩)], .int .u8 x, undef, undef, undef, undef, undef, undef, undef, undef, undef, undef], defers := [] }) ?assign ?body ?iter ?done
  case assign =>
    intro l x W K hK
    gi_wp2
    exact hK
  case iter =>
    intro l K hK hY W hJ hk
    refine (iter_in Fence.wide 2 trivial rfl (by omega) l B N HN.out (Mid W0 q B F bs) K (fun m pre W h => h.2.2) (fun m m' pre W h => h.setBox hqB m') hK (fun m pre x W h hk hl he _ _ => ?_) W (by simpa using hJ.2) hk).mono ?_
    · obtain ⟨fn, tmps, assign, body, hy, hR⟩ := hY pre x W ⟨hl, by rw [← he]; exact h⟩ hk
      refine ⟨fn, tmps, assign, body, hy, hR.mono ?_⟩
      rintro e W2 ⟨h1, h2, h3⟩
      refine ⟨h1, ?_, h3⟩
      rw [List.length_append, List.length_singleton, Nat.add_sub_cancel, ← he] at h2
      exact h2
    · rintro e W2 ⟨h1, ⟨m, h2⟩, h3⟩
      exact ⟨h1, _, ⟨rfl, m, h2⟩, h3⟩
  case done =>
    rintro D xs W ⟨rfl, m, hm⟩ hD hle
    gi_wp2
    refine ⟨by simp, .inl ⟨_, _, rfl, run_takeDeferred hD, ?_⟩⟩
    refine ⟨_, results_none rfl _ _ _, rfl, ?_⟩
    obtain ⟨hbo, hB, hsz⟩ := HS.out
    exact (hm.putObj D _ (.deferred none) hle hD rfl).out hBel hFl hq (by omega) (by omega)
  case body =>
    rintro l pre x W ⟨hl, hm⟩
    have hten := digs_ten HN.out
    obtain ⟨⟨A, cap, h1, h2⟩, h3, h4⟩ := hm
    have hbo : W.cell? ⟨bo, 0, none⟩ = some (.pointer (some ⟨q, 0, none⟩)) := by
      rw [cell_of_row _ _ _ _ _ _ (h3.block hpt (fun e => e.elim hFo (fun e => hoB e)))]; rfl
    have hq0 := h1.cell
    obtain ⟨hq0, hq1⟩ := hq0
    have hql := h1.lt
    have hol := World.block_lt_of_cell? _ _ hbo
    have hsW := h3.size
    obtain ⟨L, hL⟩ : ∃ L, L = (bs ++ pre).length := ⟨_, rfl⟩
    have hLn : L = bs.length + pre.length := by rw [hL, List.length_append]
    rw [← hL] at hq0 h1 h2
    have hne : some bo ≠ (Value.slice A L cap).ownBlock := fun e => by
      rcases (h2.1 bo e.symm).1 with h | h
      · exact hFo h
      · have := (Array.getElem?_eq_some_iff.1 hpt).1; omega
    have hnq : some q ≠ (Value.slice A L cap).ownBlock := fun e => (h2.1 q e.symm).2.1 rfl
    have HH := Aside0.mk (And.intro h1 (And.intro h2 (And.intro h3 (And.intro h4 (And.intro hL (And.intro hne hnq))))))
    have hbl := (Array.getElem?_eq_some_iff.1 hbox).1
    have hql0 := hFl2 q hq
    have hlen : (L + 1) * 1 ≤ 140737488355328 := by omega
    clear h1 h2 h3 h4 hd hL hLn hne hnq
    refine wpIn_block ?_
    refine region_in (by kernel_rfl) (by kernel_rfl) (by simp [LetsOut, Exit.inBlock]) ?_
    refine wpAny_of_held (S := fun W => W.cell? ⟨bo, 0, none⟩ = some (.pointer (some ⟨q, 0, none⟩))) _ _ _ _ ?_
    have hS : (W.drew).cell? ⟨bo, 0, none⟩ = some (.pointer (some ⟨q, 0, none⟩)) := hbo
    change wpAnyH Try.prog .any _ _ _ 11 #[false, false, false, false, false, false, false, false, false, false, false] _ _
    refine takeL (i := 0) (v := ?_) rfl (by kernel_rfl) (by kernel_rfl) (by kernel_rfl) (fun _ _ _ h => h) (Or.inl ⟨by rfl, ?hy⟩) hS ?_
    case hy => intro w hSw; go_simp; first | done | rfl
    simp only [Act.put, List.setIfInBounds_toArray, List.set_cons_zero, List.set_cons_succ]
    refine takeL (i := 1) (v := ?_) rfl (by kernel_rfl) (by kernel_rfl) (by kernel_rfl) (fun _ _ _ h => h) (Or.inl ⟨by rfl, ?hy⟩) hS ?_
    case hy => intro w hSw; go_simp; first | done | rfl
    simp only [Act.put, List.setIfInBounds_toArray, List.set_cons_zero, List.set_cons_succ]
    refine takeL (i := 2) (v := ?_) rfl (by kernel_rfl) (by kernel_rfl) (by kernel_rfl) (fun _ _ _ h => h) (Or.inl ⟨by rfl, ?hy⟩) hS ?_
    case hy => intro w hSw; go_simp; first | done | rfl
    simp only [Act.put, List.setIfInBounds_toArray, List.set_cons_zero, List.set_cons_succ]
    refine takeL (i := 3) (v := ?_) rfl (by kernel_rfl) (by kernel_rfl) (by kernel_rfl) (fun _ _ _ h => h) (Or.inl ⟨by rfl, ?hy⟩) hS ?_
    case hy => intro w hSw; go_simp; first | done | rfl
    simp only [Act.put, List.setIfInBounds_toArray, List.set_cons_zero, List.set_cons_succ]
    refine takeL (i := 5) (v := ?_) rfl (by kernel_rfl) (by kernel_rfl) (by kernel_rfl) (fun _ _ _ h => h) (Or.inl ⟨by rfl, ?hy⟩) hS ?_
    case hy => intro w hSw; go_simp; first | done | rfl
    simp only [Act.put, List.setIfInBounds_toArray, List.set_cons_zero, List.set_cons_succ]
    refine wpAnyH_ready (rs := [4, 6]) (by kernel_rfl) (by simp) ?_
    refine consL rfl (fun K hK => ?_) (consL rfl (fun K hK => ?_) AllReadyH.nil)
    rotate_left
    · go_simp
      refine hK.out _ _ ((World.cell?_alloc_some _ _ _ (by simp [hbo])).trans hbo) (fun hS => ?_)
      clear hK K
      refine wpAnyH_ready (rs := [4]) (by kernel_rfl) (by simp) ?_
      refine consL rfl (fun K hK => ?_) AllReadyH.nil
      go_simp
      refine hK.out _ _ hS (fun hS => ?_)
      clear hK K
      refine wpAnyH_ready (rs := [7]) (by kernel_rfl) (by simp) ?_
      refine consL rfl (fun K hK => ?_) AllReadyH.nil
      obtain ⟨h1, h2, h3, h4, hL, hne, hnq⟩ := HH.out
      refine Kd.R_append_step (Kd.int .u8) (w0 := W) (W := W.drew) 0 (by rfl) (.tmp 12) (.tmp 14) 26 5 (.int .u8 0) 1 (by rfl) Try.underlying26 (by kernel_rfl) rfl (by decide) (by decide) (.slice A L cap) (bs ++ pre) x [.int .u8 x] (fun k => (F k ∨ W0.heap.size ≤ k) ∧ k ≠ q ∧ k ≠ B) (fun _ => False) (by rfl) (by rfl) rfl (fun _ h => h.elim) (fun k hk => ?fresh) (Kd.R_kept h2 ((Kept.refl W (fun _ => False)).drew) (fun _ _ h => h)) ⟨rfl, rfl, rfl, Nat.le_refl _, fun _ _ => rfl⟩ (Nat.zero_le _) ?len ?_
      case fresh =>
        have hk' : W.heap.size ≤ k := hk
        exact ⟨.inr (by omega), by omega, by omega⟩
      case len => rw [← hL]; exact hlen
      intro v1 w1 ho hb hg hat
      obtain ⟨A1, c1, rfl⟩ := own_slice (Kd.own_of_R ho)
      have hg' : W.grownBy w1 (Value.slice A L cap).ownBlock := ⟨hg.os, hg.tape, hg.output, hg.size, hg.block⟩
      have hbo1 : w1.cell? ⟨bo, 0, none⟩ = some (.pointer (some ⟨q, 0, none⟩)) := hg'.cell (a := ⟨bo, 0, none⟩) hbo hne
      have hq2 : w1.cell? ⟨q, 0, none⟩ = some (.slice A L cap) := hg'.cell (a := ⟨q, 0, none⟩) hq0 hnq
      have hq3 : w1.frozen? ⟨q, 0, none⟩ = false := (World.frozen?_of_block (hg'.block q hql hnq)).trans hq1
      refine hK.out _ _ hbo1 (fun hS => ?_)
      clear hK K
      have HY := Aside0.mk (And.intro ho hg')
      clear h1 h2 h3 h4 hL hne hnq ho hb hg hat hg'
      obtain ⟨L1, hL1⟩ : ∃ L1, L1 = (bs ++ pre ++ [x]).length := ⟨_, rfl⟩
      rw [← hL1] at HY ⊢
      have HL1 := Aside0.mk hL1
      clear hL1
      simp only [Act.put, List.setIfInBounds_toArray, List.set_cons_zero, List.set_cons_succ]
      refine takeL (i := 8) (v := ?_) rfl (by kernel_rfl) (by kernel_rfl) (by kernel_rfl) (fun _ _ _ h => h) (Or.inl ⟨by rfl, ?hy⟩) hS ?_
      case hy => intro w hSw; go_simp; first | done | rfl
      simp only [Act.put, List.setIfInBounds_toArray, List.set_cons_zero, List.set_cons_succ]
      refine takeL (i := 9) (v := ?_) rfl (by kernel_rfl) (by kernel_rfl) (by kernel_rfl) (fun _ _ _ h => h) (Or.inl ⟨by rfl, ?hy⟩) hS ?_
      case hy => intro w hSw; go_simp; first | done | rfl
      simp only [Act.put, List.setIfInBounds_toArray, List.set_cons_zero, List.set_cons_succ]
      refine wpAnyH_ready (rs := [10]) (by kernel_rfl) (by simp) ?_
      refine consL rfl (fun K hK => ?_) AllReadyH.nil
      go_simp
      refine hK.out _ _ ((World.cell?_setCell_far _ _ _ _ hqo).trans hbo1) (fun hS => ?_)
      clear hK K
      refine wpAnyH_done (by kernel_rfl) ?_ _
      obtain ⟨h1, h2, h3, h4, hL, hne, hnq⟩ := HH.out
      obtain ⟨ho, hg'⟩ := HY.out
      have hL1 := HL1.out
      subst hL
      subst hL1
      have hst := Mid.stored hFl2 hq hbl hqB h1 h2 h3 h4 ho hg'
      refine ⟨rfl, hst.1, ?_⟩
      rw [List.length_append, List.length_singleton, Nat.add_sub_cancel]
      exact hst.2
    · go_simp
      refine hK.out _ _ hS (fun hS => ?_)
      clear hK K
      refine wpAnyH_ready (rs := [6]) (by kernel_rfl) (by simp) ?_
      refine consL rfl (fun K hK => ?_) AllReadyH.nil
      go_simp
      refine hK.out _ _ ((World.cell?_alloc_some _ _ _ (by simp [hbo])).trans hbo) (fun hS => ?_)
      clear hK K
      refine wpAnyH_ready (rs := [7]) (by kernel_rfl) (by simp) ?_
      refine consL rfl (fun K hK => ?_) AllReadyH.nil
      obtain ⟨h1, h2, h3, h4, hL, hne, hnq⟩ := HH.out
      refine Kd.R_append_step (Kd.int .u8) (w0 := W) (W := W.drew) 0 (by rfl) (.tmp 12) (.tmp 14) 26 5 (.int .u8 0) 1 (by rfl) Try.underlying26 (by kernel_rfl) rfl (by decide) (by decide) (.slice A L cap) (bs ++ pre) x [.int .u8 x] (fun k => (F k ∨ W0.heap.size ≤ k) ∧ k ≠ q ∧ k ≠ B) (fun _ => False) (by rfl) (by rfl) rfl (fun _ h => h.elim) (fun k hk => ?fresh) (Kd.R_kept h2 ((Kept.refl W (fun _ => False)).drew) (fun _ _ h => h)) ⟨rfl, rfl, rfl, Nat.le_refl _, fun _ _ => rfl⟩ (Nat.zero_le _) ?len ?_
      case fresh =>
        have hk' : W.heap.size ≤ k := hk
        exact ⟨.inr (by omega), by omega, by omega⟩
      case len => rw [← hL]; exact hlen
      intro v1 w1 ho hb hg hat
      obtain ⟨A1, c1, rfl⟩ := own_slice (Kd.own_of_R ho)
      have hg' : W.grownBy w1 (Value.slice A L cap).ownBlock := ⟨hg.os, hg.tape, hg.output, hg.size, hg.block⟩
      have hbo1 : w1.cell? ⟨bo, 0, none⟩ = some (.pointer (some ⟨q, 0, none⟩)) := hg'.cell (a := ⟨bo, 0, none⟩) hbo hne
      have hq2 : w1.cell? ⟨q, 0, none⟩ = some (.slice A L cap) := hg'.cell (a := ⟨q, 0, none⟩) hq0 hnq
      have hq3 : w1.frozen? ⟨q, 0, none⟩ = false := (World.frozen?_of_block (hg'.block q hql hnq)).trans hq1
      refine hK.out _ _ hbo1 (fun hS => ?_)
      clear hK K
      have HY := Aside0.mk (And.intro ho hg')
      clear h1 h2 h3 h4 hL hne hnq ho hb hg hat hg'
      obtain ⟨L1, hL1⟩ : ∃ L1, L1 = (bs ++ pre ++ [x]).length := ⟨_, rfl⟩
      rw [← hL1] at HY ⊢
      have HL1 := Aside0.mk hL1
      clear hL1
      simp only [Act.put, List.setIfInBounds_toArray, List.set_cons_zero, List.set_cons_succ]
      refine takeL (i := 8) (v := ?_) rfl (by kernel_rfl) (by kernel_rfl) (by kernel_rfl) (fun _ _ _ h => h) (Or.inl ⟨by rfl, ?hy⟩) hS ?_
      case hy => intro w hSw; go_simp; first | done | rfl
      simp only [Act.put, List.setIfInBounds_toArray, List.set_cons_zero, List.set_cons_succ]
      refine takeL (i := 9) (v := ?_) rfl (by kernel_rfl) (by kernel_rfl) (by kernel_rfl) (fun _ _ _ h => h) (Or.inl ⟨by rfl, ?hy⟩) hS ?_
      case hy => intro w hSw; go_simp; first | done | rfl
      simp only [Act.put, List.setIfInBounds_toArray, List.set_cons_zero, List.set_cons_succ]
      refine wpAnyH_ready (rs := [10]) (by kernel_rfl) (by simp) ?_
      refine consL rfl (fun K hK => ?_) AllReadyH.nil
      go_simp
      refine hK.out _ _ ((World.cell?_setCell_far _ _ _ _ hqo).trans hbo1) (fun hS => ?_)
      clear hK K
      refine wpAnyH_done (by kernel_rfl) ?_ _
      obtain ⟨h1, h2, h3, h4, hL, hne, hnq⟩ := HH.out
      obtain ⟨ho, hg'⟩ := HY.out
      have hL1 := HL1.out
      subst hL
      subst hL1
      have hst := Mid.stored hFl2 hq hbl hqB h1 h2 h3 h4 ho hg'
      refine ⟨rfl, hst.1, ?_⟩
      rw [List.length_append, List.length_singleton, Nat.add_sub_cancel]
      exact hst.2
end Go.Proofs.Ytamgeophebillaa.Code
