/- What the library's sifting up and down come to over the queue's row. No conditions beside those that each contract states. -/
import Derived.Test.YtghgjjpddemjkaaDuePP
namespace Go.Proofs.Ytghgjjpddemjkaa.Due
open Go.RowKit Go.Proofs.Ytghgjjpddemjkaa.Pa Go.Proofs.YtghgjjpddemjkaaW.PrintWords Go.Proofs.YtghgjjpddemjkaaW.PrintLast Go.Proofs.YtghgjjpddemjkaaW.PrintMore
set_option linter.unusedVariables false

set_option maxRecDepth 100000 in
set_option maxHeartbeats 4000000 in
theorem up_any (q : Nat) (F : Nat → Prop) (h : List D) (j : Nat) (w : World) (hR : Raw w q F h) (hj : j < h.length) (hn : h.length ≤ 1099511627776) (hU : Up h j) :
    Calls Try.prog 22 #[.iface 46 (.pointer (some ⟨q, 0, none⟩)), .int .i64 j] w fun e w' => e = .returned (.tuple #[]) ∧ ∃ l, l.Perm h ∧ Heap l l.length 0 ∧ Turned w q F l w' := by
  have HR := Aside0.mk (Turned.refl hR)
  have HU := Aside0.mk hU
  have HP := Aside0.mk (List.Perm.refl h)
  clear hU hR
  go_enter Try.func22, Try.ntmps22
  go_wp2
  go_loopw [1] (fun jv wr => ∃ (j : Nat) (l : List D), jv = .int .i64 j ∧ j < h.length ∧ Aside0 (Up l j) ∧ Aside0 (l.Perm h) ∧ Aside0 (Turned w q F l wr)) (fun jv _ => (intOf jv).toNat)
  case atStart => exact ⟨j, h, rfl, hj, HU, HP, HR⟩
  case round =>
    clear HU HR HP hj
    obtain ⟨j, l, rfl, hj, HU, HP, HR⟩ := hrel
    cases j with
    | zero =>
      go_wp2
      go_end0
      exact ⟨rfl, l, HP.out, (by have := HU.out.stop (.inl rfl); rwa [HP.out.length_eq] at this ⊢), HR.out⟩
    | succ m =>
      obtain ⟨p, hp⟩ : ∃ p, p = m / 2 := ⟨_, rfl⟩
      have e1 : (m : Int) / 2 = (p : Int) := by omega
      have e2 : ((p : Int) == (m : Int) + 1) = false := beq_eq_false_iff_ne.2 (by omega)
      have HPm := Aside0.mk hp
      have hl : l.length = h.length := HP.out.length_eq
      obtain ⟨F1, hR1, hF1, hW1⟩ := HR.out
      obtain ⟨g, cap, hH, hA, hFq, hFg, hgq, hlt⟩ := hR1.lies (by omega)
      have hm := meth_less q _ _ _ _ hH.cell.1
      have hless := less_any g cap l (m + 1) p wr hA (by omega) (by omega) (by omega)
      have HX := Aside0.mk (And.intro hR1 (And.intro hF1 (And.intro hW1 (And.intro hH (And.intro hA (And.intro hFq (And.intro hFg (And.intro hgq hlt))))))))
      have HL := Aside0.mk hl
      have hln : l.length ≤ 1099511627776 := by omega
      clear hp hF1 hW1 hR1 hFq hFg hgq hlt hA hH hl
      cases hc : lt (at' l (m + 1)) (at' l p) with
      | false =>
        rw [hc] at hless
        have HC := Aside0.mk hc
        clear hc
        go_wp2_with (go_at_call 42; refine hless.mono ?_; rintro e w1 ⟨rfl, hb⟩; have HB := Aside0.mk hb; clear hb)
        go_end0
        refine ⟨rfl, l, HP.out, ?_, ?_⟩
        · have h1 := HU.out.stop (.inr (by have e3 : (m + 1 - 1) / 2 = p := by have := HPm.out; omega
                                           rw [e3]; exact HC.out))
          exact h1
        · exact HR.out.trans (fun F2 hF2 hs => ⟨F2, hF2.kept (Went.of_below HB.out (fun _ => False)) (fun _ _ h => h), fun k hk => .inl hk, Went.of_below HB.out _⟩)
      | true =>
        rw [hc] at hless
        have HC := Aside0.mk hc
        clear hc
        have hswap : ∀ W, Below wr.heap.size wr W → Calls Try.prog 43 #[.slice (some ⟨g, 0, none⟩) l.length cap, .int .i64 p, .int .i64 ((m : Int) + 1)] W fun e w' => e = .returned (.tuple #[]) ∧ Arr w' g cap (swap l p (m + 1)) ∧ Went (fun k => k = g) W w' := fun W hb => swap_any g cap l p (m + 1) W (HX.out.2.2.2.2.1.kept (Went.of_below hb (fun _ => False)) (fun h => h)) (by have := HL.out; omega) (by have := HL.out; omega) hln
        go_wp2_with (first | (go_at_call 42; refine hless.mono ?_; rintro e w1 ⟨rfl, hb⟩; have HB := Aside0.mk hb; have hm2 := meth_swap q _ _ _ w1 ((HX.out.2.2.2.1.kept (Went.of_below hb (fun _ => False)) (fun h => h)).cell.1); clear hb hless) | (go_at_call 43; refine (hswap _ HB.out).mono ?_; rintro e w2 ⟨rfl, ha, hw⟩; have HA2 := Aside0.mk ha; have HW2 := Aside0.mk hw; clear ha hw))
        refine ⟨⟨p, swap l p (m + 1), rfl, by omega, ⟨?_⟩, ⟨(swap_perm _ _ _ (by have := HL.out; omega) (by have := HL.out; omega)).trans HP.out⟩, ⟨?_⟩⟩, by simp [intOf]; omega⟩
        · have e3 : (m + 1 - 1) / 2 = p := by have := HPm.out; omega
          have := HU.out.step (by omega) (by have := HL.out; omega) (by rw [e3]; exact HC.out)
          rwa [e3] at this
        · obtain ⟨hR1, hF1, hW1, hH, hA, hFq, hFg, hgq, hlt⟩ := HX.out
          have hw1 := (Went.of_below HB.out (fun _ => False)).trans (U := F1) HW2.out (fun _ h => h.elim) (fun k hk => .inl (by subst hk; exact hFg))
          refine ⟨F1, Raw.of (swap_length _ _ _) ((hH.kept (Went.of_below HB.out (fun _ => False)) (fun h => h)).kept HW2.out (fun e => hgq e.symm)) HA2.out hFq hFg hgq (fun k hk => Nat.lt_of_lt_of_le (hlt k hk) hw1.size), hF1, hW1.trans hw1 (fun _ h => h) hF1⟩
end Go.Proofs.Ytghgjjpddemjkaa.Due
