/- What the library's Push, Pop and Init come to over the queue's row. No conditions beside those that each contract states. -/
import Derived.Test.YtghgjjpddemjkaaDueDown
namespace Go.Proofs.Ytghgjjpddemjkaa.Due
open Go.RowKit Go.Proofs.Ytghgjjpddemjkaa.Pa Go.Proofs.YtghgjjpddemjkaaW.PrintWords Go.Proofs.YtghgjjpddemjkaaW.PrintLast Go.Proofs.YtghgjjpddemjkaaW.PrintMore
set_option linter.unusedVariables false

/-- A queue at block q that holds s, sorted. -/
def Que (w : World) (q : Nat) (F : Nat → Prop) (s : List D) : Prop := ∃ h, Holds h s ∧ Raw w q F h
def QTurned (w : World) (q : Nat) (F : Nat → Prop) (s : List D) (w' : World) : Prop := ∃ F', Que w' q F' s ∧ (∀ k, F' k → F k ∨ w.heap.size ≤ k) ∧ Went F w w'
theorem Turned.que {w w' : World} {q : Nat} {F : Nat → Prop} {h s : List D} (k : Turned w q F h w') (hh : Holds h s) : QTurned w q F s w' := by
  obtain ⟨F', h1, h2, h3⟩ := k
  exact ⟨F', ⟨h, hh, h1⟩, h2, h3⟩
theorem Turned.after {w w1 w2 : World} {q : Nat} {F F1 : Nat → Prop} {h : List D} (hF : ∀ k, F1 k → F k ∨ w.heap.size ≤ k) (hW : Went F w w1) (k : Turned w1 q F1 h w2) : Turned w q F h w2 := by
  obtain ⟨F2, k1, k2, k3⟩ := k
  refine ⟨F2, k1, fun k hk => ?_, hW.trans k3 (fun _ h => h) hF⟩
  rcases k2 k hk with h | h
  · exact hF k h
  · exact .inr (Nat.le_trans hW.size h)
theorem Raw.head {w : World} {q : Nat} {F : Nat → Prop} {h : List D} (k : Raw w q F h) : ∃ A cap, w.cell? ⟨q, 0, none⟩ = some (.slice A h.length cap) := by
  obtain ⟨A, cap, h1, _⟩ := k
  exact ⟨A, cap, h1.cell.1⟩

set_option maxRecDepth 100000 in
set_option maxHeartbeats 4000000 in
theorem hpush_any (q : Nat) (F : Nat → Prop) (s : List D) (x : D) (w : World) (hQ : Que w q F s) (hn : s.length ≤ 1099511627775) :
    Calls Try.prog 17 #[.iface 46 (.pointer (some ⟨q, 0, none⟩)), .iface 30 (.agg #[.int .i64 x.f0, .int .i64 x.f1])] w fun e w' => e = .returned (.tuple #[]) ∧ QTurned w q F (ins x s) w' := by
  obtain ⟨h, hh, hR⟩ := hQ
  have hl := hh.length
  have hpush := push_any q F h x w hR (by omega)
  have hm := meth_push ⟨q, 0, none⟩ w
  have HH := Aside0.mk hh
  have HL := Aside0.mk hl
  clear hh hR hl
  go_enter Try.func17, Try.ntmps17
  go_wp2_with fail
  go_at_call 45
  refine hpush.mono ?_
  rintro e w1 ⟨rfl, hT⟩
  have HT := Aside0.mk hT
  clear hT hpush hm
  obtain ⟨F1, hR1, hF1, hW1⟩ := HT.out
  obtain ⟨A1, c1, hc1⟩ := hR1.head
  have e1 : (h ++ [x]).length = h.length + 1 := by simp
  rw [e1] at hc1
  have hm2 := meth_len q A1 _ c1 w1 hc1
  obtain ⟨j, hj⟩ : ∃ j, j = h.length := ⟨_, rfl⟩
  rw [← hj] at hm2
  have hup := up_any q F1 (h ++ [x]) h.length w1 hR1 (by simp) (by have := HL.out; simp; omega) (Up.put HH.out.heap x)
  rw [← hj] at hup
  have hjb : j ≤ 1099511627776 := by have := HL.out; omega
  have HF := Aside0.mk hF1
  have HW := Aside0.mk hW1
  have HJ := Aside0.mk hj
  clear hF1 hW1 hR1 hc1 e1 hj
  go_wp2_with (first | (go_at_call 41; refine (len_any _ _ _ _).mono ?_; rintro e w2 ⟨rfl, rfl⟩) | (go_at_call 22; refine hup.mono ?_; rintro e w2 ⟨rfl, hl2⟩; have HL2 := Aside0.mk hl2; clear hl2))
  go_end0
  obtain ⟨l, hp, hheap, hT2⟩ := HL2.out
  exact ⟨rfl, (Turned.after HF.out HW.out hT2).que (HH.out.put hp hheap)⟩

set_option maxRecDepth 100000 in
set_option maxHeartbeats 8000000 in
theorem hpop_any (q : Nat) (F : Nat → Prop) (s : List D) (m : D) (w : World) (hQ : Que w q F (m :: s)) (hn : s.length ≤ 1099511627775) :
    Calls Try.prog 18 #[.iface 46 (.pointer (some ⟨q, 0, none⟩))] w fun e w' => e = .returned (.iface 30 (.agg #[.int .i64 m.f0, .int .i64 m.f1])) ∧ QTurned w q F s w' := by
  obtain ⟨h, hh, hR⟩ := hQ
  have hl := hh.length
  obtain ⟨j, hj⟩ : ∃ j, h.length = j + 1 := ⟨h.length - 1, by simp at hl; omega⟩
  have hjb : j ≤ 1099511627775 := by simp at hl; omega
  obtain ⟨g, cap, hH, hA, hFq, hFg, hgq, hlt⟩ := hR.lies (by omega)
  rw [hj] at hH
  have hm := meth_len q _ _ _ w hH.cell.1
  have hm1 := meth_swap q _ _ _ w hH.cell.1
  have hswap := swap_any g cap h 0 j w hA (by omega) (by omega) (by omega)
  rw [hj] at hswap
  have HH := Aside0.mk hh
  have HJ := Aside0.mk hj
  have HX := Aside0.mk (And.intro hR (And.intro hH (And.intro hA (And.intro hFq (And.intro hFg (And.intro hgq hlt))))))
  clear hh hR hl hj hlt hA hH hFq hFg hgq
  have hsw : Calls Try.prog 43 #[.slice (some ⟨g, 0, none⟩) (j + 1) cap, .int .i64 0, .int .i64 j] w fun e w' => e = .returned (.tuple #[]) ∧ Arr w' g cap (swap h 0 j) ∧ Went (fun k => k = g) w w' := hswap
  clear hswap
  go_enter Try.func18, Try.ntmps18
  go_wp2_with (first | (go_at_call 41; refine (len_any _ _ _ _).mono ?_; rintro e w2 ⟨rfl, rfl⟩; clear hm) | (go_at_call 43; refine hsw.mono ?_; rintro e w1 ⟨rfl, ha, hw⟩; have HA1 := Aside0.mk ha; have HW1 := Aside0.mk hw; clear ha hw hsw))
  go_at_call 23
  obtain ⟨hR, hH, hA, hFq, hFg, hgq, hlt⟩ := HX.out
  have hl1 : (swap h 0 j).length = j + 1 := by rw [swap_length, HJ.out]
  have hR1 : Raw w1 q F (swap h 0 j) := Raw.of hl1 (hH.kept HW1.out (fun e => hgq e.symm)) HA1.out hFq hFg hgq (fun k hk => Nat.lt_of_lt_of_le (hlt k hk) HW1.out.size)
  have hs1 := HH.out.swapped
  rw [HJ.out, Nat.add_sub_cancel] at hs1
  have hd := down_any q F (swap h 0 j) 0 j w1 hR1 (Nat.zero_le _) (by omega) (by omega) (Down.start hs1)
  refine hd.mono ?_
  rintro e w2 ⟨b, rfl, l, hp, hheap, hlast, hT⟩
  have hll : l.length = j + 1 := by rw [hp.length_eq, hl1]
  obtain ⟨F2, hR2, hF2, hW2⟩ := hT
  obtain ⟨g2, cap2, hH2, hA2, hFq2, hFg2, hgq2, hlt2⟩ := hR2.lies (by omega)
  have hpop := pop_any q g2 cap2 l j w2 hll hH2 hA2 hgq2 (by omega)
  have hm3 := meth_pop ⟨q, 0, none⟩ w2
  have HY := Aside0.mk (And.intro hp (And.intro hheap (And.intro (hlast j (Nat.le_refl _)) (And.intro hll (And.intro hF2 (And.intro hW2 (And.intro hFq2 (And.intro hFg2 (And.intro hgq2 hlt2)))))))))
  clear hR hH hA hFq hFg hgq hlt hl1 hR1 hs1 hd hp hheap hlast hll hR2 hF2 hW2 hH2 hA2 hFq2 hFg2 hgq2 hlt2
  go_wp2_with (go_at_call 44; refine hpop.mono ?_; rintro e w3 ⟨rfl, hh3, ha3, hw3⟩; have HZ := Aside0.mk (And.intro hh3 (And.intro ha3 hw3)); clear hh3 ha3 hw3 hpop)
  go_ret
  obtain ⟨hp, hheap, hlast, hll, hF2, hW2, hFq2, hFg2, hgq2, hlt2⟩ := HY.out
  obtain ⟨hh3, ha3, hw3⟩ := HZ.out
  have hj1 : h.length - 1 = j := by rw [HJ.out]; rfl
  obtain ⟨em, hhs⟩ := HH.out.popped (l := l) (by rw [hj1]; exact hp) (by rw [hj1]; exact hheap) (by rw [hj1]; exact hlast)
  rw [hj1] at em hhs
  obtain ⟨hR, hH, hA, hFq, hFg, hgq, hlt⟩ := HX.out
  refine ⟨by rw [em]; rfl, F2, ⟨l.take j, hhs, Raw.of (by simp; omega) hh3 ha3 hFq2 hFg2 hgq2 (fun k hk => Nat.lt_of_lt_of_le (hlt2 k hk) hw3.size)⟩, fun k hk => ?_, ?_⟩
  · rcases hF2 k hk with h | h
    · exact .inl h
    · exact .inr (Nat.le_trans HW1.out.size h)
  · have h1 : Went F w w1 := HW1.out.mono (fun k hk => by subst hk; exact hFg)
    exact (h1.trans hW2 (fun _ h => h) (fun _ h => .inl h)).trans hw3 (fun _ h => h) (fun k hk => by subst hk; exact .inl hFq)

set_option maxRecDepth 100000 in
set_option maxHeartbeats 8000000 in
theorem hinit_any (q : Nat) (F : Nat → Prop) (h : List D) (w : World) (hR : Raw w q F h) (hn : h.length ≤ 1099511627775) :
    Calls Try.prog 21 #[.iface 46 (.pointer (some ⟨q, 0, none⟩))] w fun e w' => e = .returned (.tuple #[]) ∧ ∃ l, l.Perm h ∧ Heap l l.length 0 ∧ Turned w q F l w' := by
  obtain ⟨A, cap, hc⟩ := hR.head
  have hm := meth_len q _ _ _ w hc
  have HR := Aside0.mk hR
  clear hR hc
  go_enter Try.func21, Try.ntmps21
  go_wp2_with (go_at_call 41; refine (len_any _ _ _ _).mono ?_; rintro e w2 ⟨rfl, rfl⟩; clear hm)
  obtain ⟨n, hnn⟩ : ∃ n, n = h.length := ⟨_, rfl⟩
  have HN := Aside0.mk hnn
  go_loopw [3] (fun iv wr => ∃ (i : Int) (k : Nat) (l : List D), iv = .int .i64 i ∧ i = (k : Int) - 1 ∧ k ≤ h.length ∧ Aside0 (l.Perm h) ∧ Aside0 (Heap l h.length k) ∧ Aside0 (Turned w q F l wr)) (fun iv _ => (intOf iv + 1).toNat)
  case atStart => exact ⟨_, h.length / 2, h, rfl, by omega, by omega, ⟨List.Perm.refl _⟩, ⟨fun c c0 hc hp => by omega⟩, ⟨Turned.refl HR.out⟩⟩
  case round =>
    clear HR hnn
    obtain ⟨i, k, l, rfl, hi, hk, HP, HH, HT⟩ := hrel
    cases k with
    | zero =>
      have hz : decide ((0 : Int) ≤ i) = false := decide_eq_false (by omega)
      clear hi
      go_wp2
      go_end0
      have hl := HP.out.length_eq
      exact ⟨rfl, l, HP.out, by rw [hl]; exact HH.out, HT.out⟩
    | succ m =>
      obtain rfl : i = (m : Int) := by omega
      have hl := HP.out.length_eq
      obtain ⟨F1, hR1, hF1, hW1⟩ := HT.out
      have hd := down_any q F1 l m h.length wr hR1 (by omega) (by omega) (by omega) (Down.start HH.out)
      have HF := Aside0.mk (And.intro hF1 hW1)
      have HL := Aside0.mk hl
      clear hi hR1 hF1 hW1 hl
      go_wp2_with (go_at_call 23; refine hd.mono ?_; rintro e w2 ⟨b, rfl, hl2⟩; have HL2 := Aside0.mk hl2; clear hl2 hd)
      obtain ⟨l2, hp, hheap, _, hT⟩ := HL2.out
      exact ⟨⟨_, m, l2, rfl, rfl, by omega, ⟨hp.trans HP.out⟩, ⟨hheap⟩, ⟨Turned.after HF.out.1 HF.out.2 hT⟩⟩, by simp [intOf]⟩
end Go.Proofs.Ytghgjjpddemjkaa.Due
