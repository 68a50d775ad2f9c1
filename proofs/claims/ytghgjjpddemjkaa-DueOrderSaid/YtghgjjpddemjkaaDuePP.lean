/- What the queue's row's Pop and Push come to. No conditions beside those that each contract states. -/
import Derived.Test.YtghgjjpddemjkaaDueRow
import Derived.Deep.RegionLaw
namespace Go.Proofs.Ytghgjjpddemjkaa.Due
open Go.RowKit Go.Proofs.Ytghgjjpddemjkaa.Pa Go.Proofs.YtghgjjpddemjkaaW.PrintWords Go.Proofs.YtghgjjpddemjkaaW.PrintLast Go.Proofs.YtghgjjpddemjkaaW.PrintMore
set_option linter.unusedVariables false

/-- The block of a queue. -/
def Head (w : World) (q : Nat) (A : Option Addr) (n cap : Nat) : Prop := w.heap[q]? = some (.cells #[.slice A n cap] 27 (0, 0))
theorem Head.cell {w : World} {q n cap : Nat} {A : Option Addr} (h : Head w q A n cap) : w.cell? ⟨q, 0, none⟩ = some (.slice A n cap) ∧ w.frozen? ⟨q, 0, none⟩ = false := by
  unfold Head at h
  exact ⟨by rw [cell_of_row _ _ _ _ _ _ h]; rfl, by simp [World.frozen?, h]⟩
theorem Head.lt {w : World} {q n cap : Nat} {A : Option Addr} (h : Head w q A n cap) : q < w.heap.size := (Array.getElem?_eq_some_iff.1 h).1
theorem Went.setq {w W : World} {q : Nat} (h : Went (fun k => k = q) w W) (o : Nat) (u : Value) : Went (fun k => k = q) w (W.setCell ⟨q, o, none⟩ u) := h.setCell (a := ⟨q, o, none⟩) (.inl rfl) u
theorem Head.kept {w W : World} {q n cap : Nat} {A : Option Addr} {S : Nat → Prop} (k : Head w q A n cap) (hw : Went S w W) (hn : ¬ S q) : Head W q A n cap := hw.block k hn
theorem Head.set {w : World} {q n cap : Nat} {A : Option Addr} (h : Head w q A n cap) (A' : Option Addr) (n' cap' : Nat) : Head (w.setCell ⟨q, 0, none⟩ (.slice A' n' cap')) q A' n' cap' := by
  unfold Head at *
  rw [heap_setCell h]
  rfl
theorem Arr.take {w : World} {g cap : Nat} {h : List D} (k : Arr w g cap h) (m : Nat) (hm : m ≤ h.length) : Arr w g cap (h.take m) := by
  obtain ⟨cur, h1, h2, h3, h4, h5⟩ := k
  have hl : (h.take m).length = m := by simp; omega
  refine ⟨cur, h1, by omega, h3, h4, ?_⟩
  rw [hl, flat_take, ← h5, List.take_take, Nat.min_eq_left (by omega)]
theorem Arr.own {w : World} {g cap : Nat} {h : List D} (k : Arr w g cap h) : w.ownsRow 0 30 2 (.slice (some ⟨g, 0, none⟩) h.length cap) h.length (flat h) := by
  obtain ⟨cur, h1, h2, h3, h4, h5⟩ := k
  exact ⟨flat_length h, .inr ⟨g, cap, cur, rfl, Nat.zero_le _, h1, h2, h3, h4, h5⟩⟩

set_option maxRecDepth 100000 in
set_option maxHeartbeats 4000000 in
theorem pop_any (q g cap : Nat) (h : List D) (n : Nat) (w : World) (hl : h.length = n + 1) (hq : Head w q (some ⟨g, 0, none⟩) h.length cap) (hA : Arr w g cap h) (hne : g ≠ q) (hn : n ≤ 1099511627776) :
    Calls Try.prog 44 #[.pointer (some ⟨q, 0, none⟩)] w fun e w' => e = .returned (.iface 30 (.agg #[.int .i64 (at' h n).f0, .int .i64 (at' h n).f1])) ∧ Head w' q (some ⟨g, 0, none⟩) n cap ∧ Arr w' g cap (h.take n) ∧ Went (fun k => k = q) w w' := by
  obtain ⟨a0, a1, _, _⟩ := hA.cells n (by omega)
  obtain ⟨q0, q1⟩ := hq.cell
  have hcap : n + 1 ≤ cap := by obtain ⟨cur, _, h2, _⟩ := hA; omega
  have hmax : cap ≤ maxLen := by obtain ⟨cur, _, _, h3, _⟩ := hA; omega
  unfold maxLen at hmax
  have HQ := Aside0.mk hq
  have HA := Aside0.mk (hA.take n (by omega))
  rw [hl] at q0
  generalize at' h n = x at a0 a1 ⊢
  have ql := hq.lt
  have gl := hA.lt
  clear hA hq hl
  go_enter Try.func44, Try.ntmps44
  go_wp2
  go_ret
  have hw : Went (fun k => k = q) w ((w.setCell ⟨q, 0, none⟩ (.slice (some ⟨g, 0, none⟩) n cap)).alloc (.cells #[.int .i64 x.f0, .int .i64 x.f1] 30)) := ((Went.refl _ w).setq _ _).alloc _
  have hh : Head ((w.setCell ⟨q, 0, none⟩ (.slice (some ⟨g, 0, none⟩) n cap)).alloc (.cells #[.int .i64 x.f0, .int .i64 x.f1] 30)) q (some ⟨g, 0, none⟩) n cap := (HQ.out.set _ _ _).kept ((Went.refl (fun _ => False) _).alloc _) (fun e => e)
  exact ⟨rfl, hh, HA.out.kept hw hne, hw⟩
theorem assert_due (a b : Int) (w : World) : (Instr.typeAssert (.iface 30 (.agg #[.int .i64 a, .int .i64 b])) 20 30 false).run Try.prog w = .ok (.agg #[.int .i64 a, .int .i64 b]) w := by kernel_rfl

set_option maxRecDepth 100000 in
set_option maxHeartbeats 8000000 in
theorem push_walk (q n cap : Nat) (A : Option Addr) (x : D) (xs : List Value) (w : World) (q0 : w.cell? ⟨q, 0, none⟩ = some (.slice A n cap)) (q1 : w.frozen? ⟨q, 0, none⟩ = false) (ql : q < w.heap.size)
    (hO : w.ownsRow 0 30 2 (.slice A n cap) n xs) (hn : n ≤ 1099511627776) (hq : some q ≠ (Value.slice A n cap).ownBlock) :
    Calls Try.prog 45 #[.pointer (some ⟨q, 0, none⟩), .iface 30 (.agg #[.int .i64 x.f0, .int .i64 x.f1])] w fun e w' => e = .returned (.tuple #[]) ∧
      ∃ v1 w1, w1.ownsRow 0 30 2 v1 (n + 1) (xs ++ [.int .i64 x.f0, .int .i64 x.f1]) ∧ w.grownBy w1 (Value.slice A n cap).ownBlock ∧ (v1.ownBlock = (Value.slice A n cap).ownBlock ∨ ∃ b, v1.ownBlock = some b ∧ w.heap.size ≤ b) ∧ w' = w1.setCell ⟨q, 0, none⟩ v1 := by
  have HO := Aside0.mk hO
  have ta := fun w => assert_due x.f0 x.f1 w
  clear hO
  go_enter Try.func45, Try.ntmps45
  go_region_law (refine step_append_cells (w0 := w) (W := w.drew) 0 (by rfl) (.tmp 7) (.tmp 10) 25 30 (.agg #[.int .i64 0, .int .i64 0]) 2 16 (by rfl) Try.underlying25 info30 rfl (by decide) (by decide) (.slice A n cap) n xs [.int .i64 x.f0, .int .i64 x.f1] (by rfl) (by rfl) rfl (by simp [Value.oneCell']) HO.out ⟨rfl, rfl, rfl, Nat.le_refl _, fun _ _ => rfl⟩ (Nat.zero_le _) (by omega) ?_; intro v1 w1 ho hb hg hat; obtain ⟨A1, c1, rfl⟩ := own_slice ho; have hq0 : w1.cell? ⟨q, 0, none⟩ = some (.slice A n cap) := hg.cell (a := ⟨q, 0, none⟩) q0 hq; have hq1 : w1.frozen? ⟨q, 0, none⟩ = false := (World.frozen?_of_block (hg.block q ql hq)).trans q1; have HX := Aside0.mk (And.intro ho (And.intro hg hat)); clear ho hg hat hb)
  all_goals (go_end0; obtain ⟨ho, hg, hat⟩ := HX.out; exact ⟨rfl, _, w1, ho, ⟨hg.os, hg.tape, hg.output, hg.size, hg.block⟩, hat, rfl⟩)

/-- A queue at block q that holds h, whose blocks are among F. -/
def Raw (w : World) (q : Nat) (F : Nat → Prop) (h : List D) : Prop :=
  ∃ A cap, Head w q A h.length cap ∧ w.ownsRow 0 30 2 (.slice A h.length cap) h.length (flat h) ∧ F q ∧ (∀ k, (Value.slice A h.length cap).ownBlock = some k → F k ∧ k ≠ q) ∧ ∀ k, F k → k < w.heap.size
/-- What a call leaves of a queue, and that it turns nothing else. -/
def Turned (w : World) (q : Nat) (F : Nat → Prop) (h : List D) (w' : World) : Prop := ∃ F', Raw w' q F' h ∧ (∀ k, F' k → F k ∨ w.heap.size ≤ k) ∧ Went F w w'
theorem Raw.lies {w : World} {q : Nat} {F : Nat → Prop} {h : List D} (k : Raw w q F h) (hp : 0 < h.length) : ∃ g cap, Head w q (some ⟨g, 0, none⟩) h.length cap ∧ Arr w g cap h ∧ F q ∧ F g ∧ g ≠ q ∧ ∀ k, F k → k < w.heap.size := by
  obtain ⟨A, cap, h1, h2, h3, h4, h5⟩ := k
  rcases h2.2 with ⟨e, h0⟩ | ⟨g, cap', cur, e, h6, h7⟩
  · omega
  · injection e with e1 e2 e3
    subst e1 e3
    have := h4 g rfl
    exact ⟨g, cap, h1, ⟨cur, h7⟩, h3, this.1, this.2, h5⟩
theorem Raw.of {w : World} {q g cap : Nat} {F : Nat → Prop} {h : List D} {n : Nat} (hn : h.length = n) (h1 : Head w q (some ⟨g, 0, none⟩) n cap) (h2 : Arr w g cap h) (h3 : F q) (h4 : F g) (h5 : g ≠ q) (h6 : ∀ k, F k → k < w.heap.size) : Raw w q F h := by
  subst hn
  refine ⟨_, cap, h1, h2.own, h3, fun k hk => ?_, h6⟩
  have : g = k := by simpa [Value.ownBlock] using hk
  subst this
  exact ⟨h4, h5⟩
theorem Raw.kept {w W : World} {q : Nat} {F S : Nat → Prop} {h : List D} (k : Raw w q F h) (hw : Went S w W) (hn : ∀ k, F k → ¬ S k) : Raw W q F h := by
  obtain ⟨A, cap, h1, h2, h3, h4, h5⟩ := k
  refine ⟨A, cap, h1.kept hw (hn q h3), own_move h2 (fun k hk => ?_), h3, h4, fun k hk => Nat.lt_of_lt_of_le (h5 k hk) hw.size⟩
  exact hw.kept.2 k (h5 k (h4 k hk).1) (hn k (h4 k hk).1)
theorem Raw.length {w : World} {q : Nat} {F : Nat → Prop} {h : List D} (k : Raw w q F h) : h.length ≤ maxLen := by
  obtain ⟨A, cap, h1, h2, _⟩ := k
  rcases h2.2 with ⟨_, h0⟩ | ⟨g, cap', cur, _, _, _, h3, h4, _⟩
  · unfold maxLen; omega
  · omega
theorem Turned.refl {w : World} {q : Nat} {F : Nat → Prop} {h : List D} (k : Raw w q F h) : Turned w q F h w := ⟨F, k, fun _ h => .inl h, Went.refl _ _⟩
theorem Turned.trans {w w1 w2 : World} {q : Nat} {F : Nat → Prop} {h h' : List D} (k : Turned w q F h w1) (hk : ∀ F1, Raw w1 q F1 h → (∀ k, F1 k → F k ∨ w.heap.size ≤ k) → Turned w1 q F1 h' w2) : Turned w q F h' w2 := by
  obtain ⟨F1, h1, h2, h3⟩ := k
  obtain ⟨F2, k1, k2, k3⟩ := hk F1 h1 h2
  refine ⟨F2, k1, fun k hk => ?_, h3.trans k3 (fun _ h => h) h2⟩
  rcases k2 k hk with h | h
  · exact h2 k h
  · exact .inr (Nat.le_trans h3.size h)
theorem Turned.same {w w1 : World} {q : Nat} {F : Nat → Prop} {h h' : List D} (k : Turned w q F h w1) (e : h = h') : Turned w q F h' w1 := e ▸ k
theorem push_any (q : Nat) (F : Nat → Prop) (h : List D) (x : D) (w : World) (hR : Raw w q F h) (hn : h.length ≤ 1099511627776) :
    Calls Try.prog 45 #[.pointer (some ⟨q, 0, none⟩), .iface 30 (.agg #[.int .i64 x.f0, .int .i64 x.f1])] w fun e w' => e = .returned (.tuple #[]) ∧ Turned w q F (h ++ [x]) w' := by
  obtain ⟨A, cap, h1, h2, h3, h4, h5⟩ := hR
  have hq : some q ≠ (Value.slice A h.length cap).ownBlock := fun e => (h4 q e.symm).2 rfl
  refine (push_walk q h.length cap A x (flat h) w h1.cell.1 h1.cell.2 h1.lt h2 hn hq).mono ?_
  rintro e w' ⟨rfl, v1, w1, k1, k2, k3, rfl⟩
  refine ⟨rfl, fun k => k = q ∨ v1.ownBlock = some k, ?_, ?_, ?_⟩
  · obtain ⟨A1, c1, rfl⟩ := own_slice k1
    have hl : (h ++ [x]).length = h.length + 1 := by simp
    have hne : ∀ k, (Value.slice A1 (h.length + 1) c1).ownBlock = some k → k ≠ q := by
      intro k hk e
      subst e
      rcases k3 with e | ⟨b, e, hb⟩
      · exact hq (hk ▸ e.symm ▸ rfl)
      · rw [e] at hk
        injection hk with hk
        have := h1.lt
        omega
    have hh : Head w1 q A h.length cap := (k2.block q h1.lt hq).trans h1
    have ho : w1.ownsRow 0 30 2 (.slice A1 (h.length + 1) c1) (h.length + 1) (flat (h ++ [x])) := by rw [flat_append]; exact k1
    refine ⟨A1, c1, by rw [hl]; exact hh.set _ _ _, ?_, .inl rfl, fun k hk => ?_, fun k hk => ?_⟩
    · rw [hl]
      refine own_move ho (fun k hk => Below.heap_setCell _ _ _ _ (hne k hk))
    · rw [hl] at hk
      exact ⟨.inr hk, hne k hk⟩
    · have hs : (w1.setCell ⟨q, 0, none⟩ (.slice A1 (h.length + 1) c1)).heap.size = w1.heap.size := by simp [World.setCell]
      rw [hs]
      rcases hk with rfl | hk
      · exact Nat.lt_of_lt_of_le h1.lt k2.size
      · exact own_lt k1 k hk
  · rintro k (rfl | hk)
    · exact .inl h3
    · rcases k3 with e | ⟨b, e, hb⟩
      · exact .inl (h4 k (e ▸ hk)).1
      · rw [e] at hk
        injection hk with hk
        exact .inr (by omega)
  · have hg : Went F w w1 := ⟨k2.os, k2.tape, k2.output, k2.size, fun i hi hn => k2.block i hi (fun e => hn (h4 i e.symm).1)⟩
    exact hg.setCell (a := ⟨q, 0, none⟩) (.inl h3) v1
/-! ### Which function a method of the row's pointer is -/
theorem run_wrap {P : Program} (t : TypeId) (a : Addr) (x y : String) (w : World) : (Builtin.ssaWrapNilChk_ #[t] t #[.pointer (some a), strVal x, strVal y]).run P w = .ok (.pointer (some a)) w := by rfl
theorem run_method_load {P : Program} {t elem : TypeId} {name : String} {f : FuncId} {n : Nat} (a : Addr) (w : World)
    (hm : ((P.info? t).bind fun i => i.methods.find? (·.name == name)).map (fun m => (m.path, m.func)) = some (#[], some (f, false)))
    (hu : P.underlying t = some (.pointer elem)) :
    (method (n + 1) t (.pointer (some a)) name).run P w = ((loadVar elem a).run P w).andThen fun v w => .ok (f, v) w := by
  obtain ⟨m, hm1, hm2⟩ := Option.map_eq_some_iff.1 hm
  obtain ⟨i, hi, hf⟩ := Option.bind_eq_some_iff.1 hm1
  obtain ⟨e1, e2⟩ := Prod.mk.inj hm2
  simp [method, typeInfo, hi, hf, e1, e2, follow, receiverAt, run_underlying hu, Place.get]
  rw [run_wrap]
  simp [asAddr]
theorem run_method_ptr {P : Program} {t elem : TypeId} {name : String} {f : FuncId} {n : Nat} (a : Addr) (w : World)
    (hm : ((P.info? t).bind fun i => i.methods.find? (·.name == name)).map (fun m => (m.path, m.func)) = some (#[], some (f, true)))
    (hu : P.underlying t = some (.pointer elem)) :
    (method (n + 1) t (.pointer (some a)) name).run P w = .ok (f, .pointer (some a)) w := by
  obtain ⟨m, hm1, hm2⟩ := Option.map_eq_some_iff.1 hm
  obtain ⟨i, hi, hf⟩ := Option.bind_eq_some_iff.1 hm1
  obtain ⟨e1, e2⟩ := Prod.mk.inj hm2
  simp [method, typeInfo, hi, hf, e1, e2, follow, receiverAt, run_underlying hu, Place.get]
theorem meth_len (q : Nat) (A : Option Addr) (n cap : Nat) (w : World) (h : w.cell? ⟨q, 0, none⟩ = some (.slice A n cap)) : (method 175 46 (.pointer (some ⟨q, 0, none⟩)) "Len").run Try.prog w = .ok (41, .slice A n cap) w := by
  rw [run_method_load (f := 41) _ w (by kernel_rfl) Try.underlying46]
  go_simp
theorem meth_less (q : Nat) (A : Option Addr) (n cap : Nat) (w : World) (h : w.cell? ⟨q, 0, none⟩ = some (.slice A n cap)) : (method 175 46 (.pointer (some ⟨q, 0, none⟩)) "Less").run Try.prog w = .ok (42, .slice A n cap) w := by
  rw [run_method_load (f := 42) _ w (by kernel_rfl) Try.underlying46]
  go_simp
theorem meth_swap (q : Nat) (A : Option Addr) (n cap : Nat) (w : World) (h : w.cell? ⟨q, 0, none⟩ = some (.slice A n cap)) : (method 175 46 (.pointer (some ⟨q, 0, none⟩)) "Swap").run Try.prog w = .ok (43, .slice A n cap) w := by
  rw [run_method_load (f := 43) _ w (by kernel_rfl) Try.underlying46]
  go_simp
theorem meth_push (a : Addr) (w : World) : (method 175 46 (.pointer (some a)) "Push").run Try.prog w = .ok (45, .pointer (some a)) w := run_method_ptr a w (by kernel_rfl) Try.underlying46
theorem meth_pop (a : Addr) (w : World) : (method 175 46 (.pointer (some a)) "Pop").run Try.prog w = .ok (44, .pointer (some a)) w := run_method_ptr a w (by kernel_rfl) Try.underlying46
end Go.Proofs.Ytghgjjpddemjkaa.Due
