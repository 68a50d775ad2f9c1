/- What the library's sifting up and down come to over the queue's row. No conditions beside those that each contract states. -/
import Derived.Test.YtjhdjkanepdgiaaDueA
namespace Go.Proofs.Ytjhdjkanepdgiaa.Due
open Go.RowKit Go.Proofs.Ytjhdjkanepdgiaa.Pa Go.Proofs.YtjhdjkanepdgiaaW.PrintWords Go.Proofs.YtjhdjkanepdgiaaW.PrintLast Go.Proofs.YtjhdjkanepdgiaaW.PrintMore
set_option linter.unusedVariables false

set_option maxRecDepth 100000 in
set_option maxHeartbeats 4000000 in
theorem up_any (q : Nat) (F : Nat → Prop) (h : List D) (j : Nat) (w : World) (hR : Raw w q F h) (hj : j < h.length) (hn : h.length ≤ 1099511627776) (hU : Up h j) :
    Calls Try.prog 48 #[.iface 79 (.pointer (some ⟨q, 0, none⟩)), .int .i64 j] w fun e w' => e = .returned (.tuple #[]) ∧ ∃ l, l.Perm h ∧ Heap l l.length 0 ∧ Turned w q F l w' := by
  have HR := Aside0.mk (Turned.refl hR)
  have HU := Aside0.mk hU
  have HP := Aside0.mk (List.Perm.refl h)
  clear hU hR
  go_enter Try.func48, Try.ntmps48
  go_wp2
  go_loopw [1] (fun jv wr => ∃ (j : Nat) (l : List D), jv = .int .i64 j ∧ j < h.length ∧ Aside0 (Up l j) ∧ Aside0 (l.Perm h) ∧ Aside0 (Turned w q F l wr)) (fun jv _ => (intOf jv).toNat)
  case atStart => exact ⟨j, h, rfl, hj, HU, HP, HR⟩
  case round =>
    clear HU HR HP hj
    obtain ⟨j, l, rfl, hj, HU, HP, HR⟩ := hrel
    cases j with
    | zero =>
      go_wp2
      go_end0
      exact ⟨rfl, l, HP.out, (by have := HU.out.stop (.inl rfl); rwa [HP.out.length_eq] at this ⊢), HR.out⟩
    | succ m =>
      obtain ⟨p, hp⟩ : ∃ p, p = m / 2 := ⟨_, rfl⟩
      have e1 : (m : Int) / 2 = (p : Int) := by omega
      have e2 : ((p : Int) == (m : Int) + 1) = false := beq_eq_false_iff_ne.2 (by omega)
      have HPm := Aside0.mk hp
      have hl : l.length = h.length := HP.out.length_eq
      obtain ⟨F1, hR1, hF1, hW1⟩ := HR.out
      obtain ⟨g, cap, hH, hA, hFq, hFg, hgq, hlt⟩ := hR1.lies (by omega)
      have hm := meth_less q _ _ _ _ hH.cell.1
      have hless := less_any g cap l (m + 1) p wr hA (by omega) (by omega) (by omega)
      have HX := Aside0.mk (And.intro hR1 (And.intro hF1 (And.intro hW1 (And.intro hH (And.intro hA (And.intro hFq (And.intro hFg (And.intro hgq hlt))))))))
      have HL := Aside0.mk hl
      have hln : l.length ≤ 1099511627776 := by omega
      clear hp hF1 hW1 hR1 hFq hFg hgq hlt hA hH hl
      cases hc : lt (at' l (m + 1)) (at' l p) with
      | false =>
        rw [hc] at hless
        have HC := Aside0.mk hc
        clear hc
        go_wp2_with (go_at_call 70; refine hless.mono ?_; rintro e w1 ⟨rfl, hb⟩; have HB := Aside0.mk hb; clear hb)
        go_end0
        refine ⟨rfl, l, HP.out, ?_, ?_⟩
        · have h1 := HU.out.stop (.inr (by have e3 : (m + 1 - 1) / 2 = p := by have := HPm.out; omega
                                           rw [e3]; exact HC.out))
          exact h1
        · exact HR.out.trans (fun F2 hF2 hs => ⟨F2, hF2.kept (Went.of_below HB.out (fun _ => False)) (fun _ _ h => h), fun k hk => .inl hk, Went.of_below HB.out _⟩)
      | true =>
        rw [hc] at hless
        have HC := Aside0.mk hc
        clear hc
        have hswap : ∀ W, Below wr.heap.size wr W → Calls Try.prog 71 #[.slice (some ⟨g, 0, none⟩) l.length cap, .int .i64 p, .int .i64 ((m : Int) + 1)] W fun e w' => e = .returned (.tuple #[]) ∧ Arr w' g cap (swap l p (m + 1)) ∧ Went (fun k => k = g) W w' := fun W hb => swap_any g cap l p (m + 1) W (HX.out.2.2.2.2.1.kept (Went.of_below hb (fun _ => False)) (fun h => h)) (by have := HL.out; omega) (by have := HL.out; omega) hln
        go_wp2_with (first | (go_at_call 70; refine hless.mono ?_; rintro e w1 ⟨rfl, hb⟩; have HB := Aside0.mk hb; have hm2 := meth_swap q _ _ _ w1 ((HX.out.2.2.2.1.kept (Went.of_below hb (fun _ => False)) (fun h => h)).cell.1); clear hb hless) | (go_at_call 71; refine (hswap _ HB.out).mono ?_; rintro e w2 ⟨rfl, ha, hw⟩; have HA2 := Aside0.mk ha; have HW2 := Aside0.mk hw; clear ha hw))
        refine ⟨⟨p, swap l p (m + 1), rfl, by omega, ⟨?_⟩, ⟨(swap_perm _ _ _ (by have := HL.out; omega) (by have := HL.out; omega)).trans HP.out⟩, ⟨?_⟩⟩, by simp [intOf]; omega⟩
        · have e3 : (m + 1 - 1) / 2 = p := by have := HPm.out; omega
          have := HU.out.step (by omega) (by have := HL.out; omega) (by rw [e3]; exact HC.out)
          rwa [e3] at this
        · obtain ⟨hR1, hF1, hW1, hH, hA, hFq, hFg, hgq, hlt⟩ := HX.out
          have hw1 := (Went.of_below HB.out (fun _ => False)).trans (U := F1) HW2.out (fun _ h => h.elim) (fun k hk => .inl (by subst hk; exact hFg))
          refine ⟨F1, Raw.of (swap_length _ _ _) ((hH.kept (Went.of_below HB.out (fun _ => False)) (fun h => h)).kept HW2.out (fun e => hgq e.symm)) HA2.out hFq hFg hgq (fun k hk => Nat.lt_of_lt_of_le (hlt k hk) hw1.size), hF1, hW1.trans hw1 (fun _ h => h) hF1⟩
end Go.Proofs.Ytjhdjkanepdgiaa.Due

namespace Go.Proofs.Ytjhdjkanepdgiaa.Due
open Go.RowKit Go.Proofs.Ytjhdjkanepdgiaa.Pa Go.Proofs.YtjhdjkanepdgiaaW.PrintWords Go.Proofs.YtjhdjkanepdgiaaW.PrintLast Go.Proofs.YtjhdjkanepdgiaaW.PrintMore
set_option linter.unusedVariables false

theorem swap_perm_at {l : List D} {i j k : Nat} (hi : i < l.length) (hj : j < l.length) (h1 : k ≠ i) (h2 : k ≠ j) : at' (swap l i j) k = at' l k := by
  rw [at_swap _ _ _ _ hi hj, if_neg h2, if_neg h1]
set_option maxRecDepth 100000 in
set_option maxHeartbeats 16000000 in
theorem down_any (q : Nat) (F : Nat → Prop) (h : List D) (i0 n : Nat) (w : World) (hR : Raw w q F h) (hi0 : i0 ≤ n) (hnl : n ≤ h.length) (hn : h.length ≤ 1099511627776) (hU : Down h n i0 i0) :
    Calls Try.prog 52 #[.iface 79 (.pointer (some ⟨q, 0, none⟩)), .int .i64 i0, .int .i64 n] w fun e w' => ∃ b : Bool, e = .returned (.bool b) ∧ ∃ l, l.Perm h ∧ Heap l n i0 ∧ (∀ k, n ≤ k → at' l k = at' h k) ∧ Turned w q F l w' := by
  have HR := Aside0.mk (Turned.refl hR)
  have HU := Aside0.mk hU
  have HP := Aside0.mk (List.Perm.refl h)
  clear hU hR
  go_enter Try.func52, Try.ntmps52
  go_wp2
  go_loopw [7] (fun iv wr => ∃ (i : Nat) (l : List D), iv = .int .i64 i ∧ i ≤ n ∧ Aside0 (Down l n i0 i) ∧ Aside0 (l.Perm h) ∧ Aside0 (∀ k, n ≤ k → at' l k = at' h k) ∧ Aside0 (Turned w q F l wr)) (fun iv _ => h.length - (intOf iv).toNat)
  case atStart => exact ⟨i0, h, rfl, hi0, HU, HP, ⟨fun _ _ => rfl⟩, HR⟩
  case round =>
    clear HU HR HP
    obtain ⟨i, l, rfl, hin, HU, HP, HK, HR⟩ := hrel
    obtain ⟨a, ha⟩ : ∃ a, a = 2 * i + 1 := ⟨_, rfl⟩
    have e1 : 2 * (i : Int) + 1 = (a : Int) := by omega
    have HA := Aside0.mk ha
    by_cases c1 : n ≤ a
    · clear ha
      go_wp2
      go_ret
      exact ⟨_, rfl, l, HP.out, HU.out.stop (fun k hk k0 hp => by have := HA.out; omega), HK.out, HR.out⟩
    · have hl0 : l.length = h.length := HP.out.length_eq
      obtain ⟨F1, hR1, hF1, hW1⟩ := HR.out
      obtain ⟨g, cap, hH, hArr, hFq, hFg, hgq, hlt⟩ := hR1.lies (by omega)
      obtain ⟨b, hb⟩ : ∃ b, b = a + 1 := ⟨_, rfl⟩
      have e2 : (a : Int) + 1 = (b : Int) := by omega
      have HB := Aside0.mk hb
      have hm := meth_less q _ _ _ _ hH.cell.1
      have hln : l.length ≤ 1099511627776 := by omega
      have lss := fun (x y : Nat) (W : World) (hb : Below wr.heap.size wr W) (hx : x < n) (hy : y < n) => less_any g cap l x y W (hArr.kept (Went.of_below hb (fun _ => False)) (fun h => h)) (by omega) (by omega) hln
      have swp := fun (x y : Nat) (W : World) (hb : Below wr.heap.size wr W) (hx : x < n) (hy : y < n) => swap_any g cap l x y W (hArr.kept (Went.of_below hb (fun _ => False)) (fun h => h)) (by omega) (by omega) hln
      have mls := fun (W : World) (hb : Below wr.heap.size wr W) => meth_less q _ _ _ W ((hH.kept (Went.of_below hb (fun _ => False)) (fun h => h)).cell.1)
      have msw := fun (W : World) (hb : Below wr.heap.size wr W) => meth_swap q _ _ _ W ((hH.kept (Went.of_below hb (fun _ => False)) (fun h => h)).cell.1)
      have MLS := Aside0.mk mls
      have MSW := Aside0.mk msw
      have HX := Aside0.mk (And.intro hR1 (And.intro hF1 (And.intro hW1 (And.intro hH (And.intro hArr (And.intro hFq (And.intro hFg (And.intro hgq hlt))))))))
      have HL := Aside0.mk hl0
      clear ha hb hF1 hW1 hR1 hFq hFg hgq hlt hArr hH mls msw hl0
      by_cases c2 : b < n
      · have hl1 := lss b a wr (Below.refl _ _) c2 (by omega)
        cases d1 : lt (at' l b) (at' l a) with
        | false =>
          rw [d1] at hl1
          have HC1 := Aside0.mk d1
          clear d1
          have hl2 := fun W hb => lss a i W hb (by omega) (by have := HA.out; omega)
          cases d2 : lt (at' l a) (at' l i) with
          | false =>
            rw [d2] at hl2
            have HC2 := Aside0.mk d2
            have hsw := fun W hb => swp i a W hb (by have := HA.out; omega) (by omega)
            clear d2 lss swp
            go_wp2_with (first | (go_at_call 70; refine hl1.mono ?_; rintro e w1 ⟨rfl, hb⟩; have HB1 := Aside0.mk hb; have hm2 := MLS.out w1 hb; clear hb hl1) | (go_at_call 70; refine (hl2 _ HB1.out).mono ?_; rintro e w2 ⟨rfl, hb⟩; have HB2 := Aside0.mk (below_then HB1.out HB1.out.size hb); have hm3 := MSW.out w2 HB2.out; clear hb hl2))
            go_ret
            exact ⟨_, rfl, l, HP.out, HU.out.stop (fun k hk k0 hp => by
              have := HA.out; have := HB.out
              rcases (show k = a ∨ k = b by omega) with rfl | rfl
              · exact HC2.out
              · exact le_trans HC2.out HC1.out
            ), HK.out, HR.out.trans (fun F2 hF2 hs => ⟨F2, hF2.kept (Went.of_below HB2.out (fun _ => False)) (fun _ _ h => h), fun k hk => .inl hk, Went.of_below HB2.out _⟩)⟩
          | true =>
            rw [d2] at hl2
            have HC2 := Aside0.mk d2
            have hsw := fun W hb => swp i a W hb (by have := HA.out; omega) (by omega)
            clear d2 lss swp
            go_wp2_with (first | (go_at_call 70; refine hl1.mono ?_; rintro e w1 ⟨rfl, hb⟩; have HB1 := Aside0.mk hb; have hm2 := MLS.out w1 hb; clear hb hl1) | (go_at_call 70; refine (hl2 _ HB1.out).mono ?_; rintro e w2 ⟨rfl, hb⟩; have HB2 := Aside0.mk (below_then HB1.out HB1.out.size hb); have hm3 := MSW.out w2 HB2.out; clear hb hl2) | (go_at_call 71; refine (hsw _ HB2.out).mono ?_; rintro e ws ⟨rfl, ha, hw⟩; have HAS := Aside0.mk ha; have HWS := Aside0.mk hw; clear ha hw))
            refine ⟨⟨a, swap l i a, rfl, by omega, ⟨?_⟩, ⟨(swap_perm _ _ _ (by have := HL.out; omega) (by have := HL.out; omega)).trans HP.out⟩, ⟨fun k hk => (swap_perm_at (by have := HL.out; omega) (by have := HL.out; omega) (by have := HA.out; omega) (by omega)).trans (HK.out k hk)⟩, ⟨?_⟩⟩, by have := HA.out; have := HB.out; simp [intOf]; omega⟩
            · refine HU.out.step (by have := HL.out; omega) (by omega) (by have := HA.out; have := HB.out; omega) (by have := HA.out; have := HB.out; omega) HC2.out (fun k k0 hk hp => ?_)
              have := HA.out; have := HB.out
              rcases (show k = a ∨ k = b by omega) with rfl | rfl
              · exact lt_irrefl _
              · exact HC1.out
            · obtain ⟨hR1, hF1, hW1, hH, hA, hFq, hFg, hgq, hlt⟩ := HX.out
              have hw1 := (Went.of_below HB2.out (fun _ => False)).trans (U := F1) HWS.out (fun _ h => h.elim) (fun k hk => .inl (by subst hk; exact hFg))
              refine ⟨F1, Raw.of (swap_length _ _ _) ((hH.kept (Went.of_below HB2.out (fun _ => False)) (fun h => h)).kept HWS.out (fun e => hgq e.symm)) HAS.out hFq hFg hgq (fun k hk => Nat.lt_of_lt_of_le (hlt k hk) hw1.size), hF1, hW1.trans hw1 (fun _ h => h) hF1⟩
        | true =>
          rw [d1] at hl1
          have HC1 := Aside0.mk d1
          clear d1
          have hl2 := fun W hb => lss b i W hb (by omega) (by have := HA.out; omega)
          cases d2 : lt (at' l b) (at' l i) with
          | false =>
            rw [d2] at hl2
            have HC2 := Aside0.mk d2
            have hsw := fun W hb => swp i b W hb (by have := HA.out; omega) (by omega)
            clear d2 lss swp
            go_wp2_with (first | (go_at_call 70; refine hl1.mono ?_; rintro e w1 ⟨rfl, hb⟩; have HB1 := Aside0.mk hb; have hm2 := MLS.out w1 hb; clear hb hl1) | (go_at_call 70; refine (hl2 _ HB1.out).mono ?_; rintro e w2 ⟨rfl, hb⟩; have HB2 := Aside0.mk (below_then HB1.out HB1.out.size hb); have hm3 := MSW.out w2 HB2.out; clear hb hl2))
            go_ret
            exact ⟨_, rfl, l, HP.out, HU.out.stop (fun k hk k0 hp => by
              have := HA.out; have := HB.out
              rcases (show k = a ∨ k = b by omega) with rfl | rfl
              · exact le_trans HC2.out (lt_asymm HC1.out)
              · exact HC2.out
            ), HK.out, HR.out.trans (fun F2 hF2 hs => ⟨F2, hF2.kept (Went.of_below HB2.out (fun _ => False)) (fun _ _ h => h), fun k hk => .inl hk, Went.of_below HB2.out _⟩)⟩
          | true =>
            rw [d2] at hl2
            have HC2 := Aside0.mk d2
            have hsw := fun W hb => swp i b W hb (by have := HA.out; omega) (by omega)
            clear d2 lss swp
            go_wp2_with (first | (go_at_call 70; refine hl1.mono ?_; rintro e w1 ⟨rfl, hb⟩; have HB1 := Aside0.mk hb; have hm2 := MLS.out w1 hb; clear hb hl1) | (go_at_call 70; refine (hl2 _ HB1.out).mono ?_; rintro e w2 ⟨rfl, hb⟩; have HB2 := Aside0.mk (below_then HB1.out HB1.out.size hb); have hm3 := MSW.out w2 HB2.out; clear hb hl2) | (go_at_call 71; refine (hsw _ HB2.out).mono ?_; rintro e ws ⟨rfl, ha, hw⟩; have HAS := Aside0.mk ha; have HWS := Aside0.mk hw; clear ha hw))
            refine ⟨⟨b, swap l i b, rfl, by omega, ⟨?_⟩, ⟨(swap_perm _ _ _ (by have := HL.out; omega) (by have := HL.out; omega)).trans HP.out⟩, ⟨fun k hk => (swap_perm_at (by have := HL.out; omega) (by have := HL.out; omega) (by have := HA.out; omega) (by omega)).trans (HK.out k hk)⟩, ⟨?_⟩⟩, by have := HA.out; have := HB.out; simp [intOf]; omega⟩
            · refine HU.out.step (by have := HL.out; omega) (by omega) (by have := HA.out; have := HB.out; omega) (by have := HA.out; have := HB.out; omega) HC2.out (fun k k0 hk hp => ?_)
              have := HA.out; have := HB.out
              rcases (show k = a ∨ k = b by omega) with rfl | rfl
              · exact lt_asymm HC1.out
              · exact lt_irrefl _
            · obtain ⟨hR1, hF1, hW1, hH, hA, hFq, hFg, hgq, hlt⟩ := HX.out
              have hw1 := (Went.of_below HB2.out (fun _ => False)).trans (U := F1) HWS.out (fun _ h => h.elim) (fun k hk => .inl (by subst hk; exact hFg))
              refine ⟨F1, Raw.of (swap_length _ _ _) ((hH.kept (Went.of_below HB2.out (fun _ => False)) (fun h => h)).kept HWS.out (fun e => hgq e.symm)) HAS.out hFq hFg hgq (fun k hk => Nat.lt_of_lt_of_le (hlt k hk) hw1.size), hF1, hW1.trans hw1 (fun _ h => h) hF1⟩
      · have c2' : decide ((b : Int) < (n : Int)) = false := decide_eq_false (by omega)
        have hl2 := fun W hb => lss a i W hb (by omega) (by have := HA.out; omega)
        cases d2 : lt (at' l a) (at' l i) with
        | false =>
          rw [d2] at hl2
          have HC2 := Aside0.mk d2
          have hsw := fun W hb => swp i a W hb (by have := HA.out; omega) (by omega)
          clear d2 lss swp
          go_wp2_with (first | (go_at_call 70; refine (hl2 _ (Below.refl _ _)).mono ?_; rintro e w1 ⟨rfl, hb⟩; have HB1 := Aside0.mk hb; have hm3 := MSW.out w1 hb; clear hb hl2))
          go_ret
          exact ⟨_, rfl, l, HP.out, HU.out.stop (fun k hk k0 hp => by
            have := HA.out; have := HB.out
            rcases (show k = a ∨ k = b by omega) with rfl | rfl
            · exact HC2.out
            · exact absurd hk (by omega)
          ), HK.out, HR.out.trans (fun F2 hF2 hs => ⟨F2, hF2.kept (Went.of_below HB1.out (fun _ => False)) (fun _ _ h => h), fun k hk => .inl hk, Went.of_below HB1.out _⟩)⟩
        | true =>
          rw [d2] at hl2
          have HC2 := Aside0.mk d2
          have hsw := fun W hb => swp i a W hb (by have := HA.out; omega) (by omega)
          clear d2 lss swp
          go_wp2_with (first | (go_at_call 70; refine (hl2 _ (Below.refl _ _)).mono ?_; rintro e w1 ⟨rfl, hb⟩; have HB1 := Aside0.mk hb; have hm3 := MSW.out w1 hb; clear hb hl2) | (go_at_call 71; refine (hsw _ HB1.out).mono ?_; rintro e ws ⟨rfl, ha, hw⟩; have HAS := Aside0.mk ha; have HWS := Aside0.mk hw; clear ha hw))
          refine ⟨⟨a, swap l i a, rfl, by omega, ⟨?_⟩, ⟨(swap_perm _ _ _ (by have := HL.out; omega) (by have := HL.out; omega)).trans HP.out⟩, ⟨fun k hk => (swap_perm_at (by have := HL.out; omega) (by have := HL.out; omega) (by have := HA.out; omega) (by omega)).trans (HK.out k hk)⟩, ⟨?_⟩⟩, by have := HA.out; have := HB.out; simp [intOf]; omega⟩
          · refine HU.out.step (by have := HL.out; omega) (by omega) (by have := HA.out; have := HB.out; omega) (by have := HA.out; have := HB.out; omega) HC2.out (fun k k0 hk hp => ?_)
            have := HA.out; have := HB.out
            rcases (show k = a ∨ k = b by omega) with rfl | rfl
            · exact lt_irrefl _
            · exact absurd hk (by omega)
          · obtain ⟨hR1, hF1, hW1, hH, hA, hFq, hFg, hgq, hlt⟩ := HX.out
            have hw1 := (Went.of_below HB1.out (fun _ => False)).trans (U := F1) HWS.out (fun _ h => h.elim) (fun k hk => .inl (by subst hk; exact hFg))
            refine ⟨F1, Raw.of (swap_length _ _ _) ((hH.kept (Went.of_below HB1.out (fun _ => False)) (fun h => h)).kept HWS.out (fun e => hgq e.symm)) HAS.out hFq hFg hgq (fun k hk => Nat.lt_of_lt_of_le (hlt k hk) hw1.size), hF1, hW1.trans hw1 (fun _ h => h) hF1⟩
end Go.Proofs.Ytjhdjkanepdgiaa.Due

namespace Go.Proofs.Ytjhdjkanepdgiaa.Due
open Go.RowKit Go.Proofs.Ytjhdjkanepdgiaa.Pa Go.Proofs.YtjhdjkanepdgiaaW.PrintWords Go.Proofs.YtjhdjkanepdgiaaW.PrintLast Go.Proofs.YtjhdjkanepdgiaaW.PrintMore
set_option linter.unusedVariables false

/-- A queue at block q that holds s, sorted. -/
def Que (w : World) (q : Nat) (F : Nat → Prop) (s : List D) : Prop := ∃ h, Holds h s ∧ Raw w q F h
def QTurned (w : World) (q : Nat) (F : Nat → Prop) (s : List D) (w' : World) : Prop := ∃ F', Que w' q F' s ∧ (∀ k, F' k → F k ∨ w.heap.size ≤ k) ∧ Went F w w'
theorem Turned.que {w w' : World} {q : Nat} {F : Nat → Prop} {h s : List D} (k : Turned w q F h w') (hh : Holds h s) : QTurned w q F s w' := by
  obtain ⟨F', h1, h2, h3⟩ := k
  exact ⟨F', ⟨h, hh, h1⟩, h2, h3⟩
theorem Turned.after {w w1 w2 : World} {q : Nat} {F F1 : Nat → Prop} {h : List D} (hF : ∀ k, F1 k → F k ∨ w.heap.size ≤ k) (hW : Went F w w1) (k : Turned w1 q F1 h w2) : Turned w q F h w2 := by
  obtain ⟨F2, k1, k2, k3⟩ := k
  refine ⟨F2, k1, fun k hk => ?_, hW.trans k3 (fun _ h => h) hF⟩
  rcases k2 k hk with h | h
  · exact hF k h
  · exact .inr (Nat.le_trans hW.size h)
theorem Raw.head {w : World} {q : Nat} {F : Nat → Prop} {h : List D} (k : Raw w q F h) : ∃ A cap, w.cell? ⟨q, 0, none⟩ = some (.slice A h.length cap) := by
  obtain ⟨A, cap, h1, _⟩ := k
  exact ⟨A, cap, h1.cell.1⟩

set_option maxRecDepth 100000 in
set_option maxHeartbeats 4000000 in
theorem hpush_any (q : Nat) (F : Nat → Prop) (s : List D) (x : D) (w : World) (hQ : Que w q F s) (hn : s.length ≤ 1099511627775) :
    Calls Try.prog 43 #[.iface 79 (.pointer (some ⟨q, 0, none⟩)), .iface 72 (.agg #[.int .i64 x.f0, .int .i64 x.f1])] w fun e w' => e = .returned (.tuple #[]) ∧ QTurned w q F (ins x s) w' := by
  obtain ⟨h, hh, hR⟩ := hQ
  have hl := hh.length
  have hpush := push_any q F h x w hR (by omega)
  have hm := meth_push ⟨q, 0, none⟩ w
  have HH := Aside0.mk hh
  have HL := Aside0.mk hl
  clear hh hR hl
  go_enter Try.func43, Try.ntmps43
  go_wp2_with fail
  go_at_call 73
  refine hpush.mono ?_
  rintro e w1 ⟨rfl, hT⟩
  have HT := Aside0.mk hT
  clear hT hpush hm
  obtain ⟨F1, hR1, hF1, hW1⟩ := HT.out
  obtain ⟨A1, c1, hc1⟩ := hR1.head
  have e1 : (h ++ [x]).length = h.length + 1 := by simp
  rw [e1] at hc1
  have hm2 := meth_len q A1 _ c1 w1 hc1
  obtain ⟨j, hj⟩ : ∃ j, j = h.length := ⟨_, rfl⟩
  rw [← hj] at hm2
  have hup := up_any q F1 (h ++ [x]) h.length w1 hR1 (by simp) (by have := HL.out; simp; omega) (Up.put HH.out.heap x)
  rw [← hj] at hup
  have hjb : j ≤ 1099511627776 := by have := HL.out; omega
  have HF := Aside0.mk hF1
  have HW := Aside0.mk hW1
  have HJ := Aside0.mk hj
  clear hF1 hW1 hR1 hc1 e1 hj
  go_wp2_with (first | (go_at_call 69; refine (len_any _ _ _ _).mono ?_; rintro e w2 ⟨rfl, rfl⟩) | (go_at_call 48; refine hup.mono ?_; rintro e w2 ⟨rfl, hl2⟩; have HL2 := Aside0.mk hl2; clear hl2))
  go_end0
  obtain ⟨l, hp, hheap, hT2⟩ := HL2.out
  exact ⟨rfl, (Turned.after HF.out HW.out hT2).que (HH.out.put hp hheap)⟩

set_option maxRecDepth 100000 in
set_option maxHeartbeats 8000000 in
theorem hpop_any (q : Nat) (F : Nat → Prop) (s : List D) (m : D) (w : World) (hQ : Que w q F (m :: s)) (hn : s.length ≤ 1099511627775) :
    Calls Try.prog 50 #[.iface 79 (.pointer (some ⟨q, 0, none⟩))] w fun e w' => e = .returned (.iface 72 (.agg #[.int .i64 m.f0, .int .i64 m.f1])) ∧ QTurned w q F s w' := by
  obtain ⟨h, hh, hR⟩ := hQ
  have hl := hh.length
  obtain ⟨j, hj⟩ : ∃ j, h.length = j + 1 := ⟨h.length - 1, by simp at hl; omega⟩
  have hjb : j ≤ 1099511627775 := by simp at hl; omega
  obtain ⟨g, cap, hH, hA, hFq, hFg, hgq, hlt⟩ := hR.lies (by omega)
  rw [hj] at hH
  have hm := meth_len q _ _ _ w hH.cell.1
  have hm1 := meth_swap q _ _ _ w hH.cell.1
  have hswap := swap_any g cap h 0 j w hA (by omega) (by omega) (by omega)
  rw [hj] at hswap
  have HH := Aside0.mk hh
  have HJ := Aside0.mk hj
  have HX := Aside0.mk (And.intro hR (And.intro hH (And.intro hA (And.intro hFq (And.intro hFg (And.intro hgq hlt))))))
  clear hh hR hl hj hlt hA hH hFq hFg hgq
  have hsw : Calls Try.prog 71 #[.slice (some ⟨g, 0, none⟩) (j + 1) cap, .int .i64 0, .int .i64 j] w fun e w' => e = .returned (.tuple #[]) ∧ Arr w' g cap (swap h 0 j) ∧ Went (fun k => k = g) w w' := hswap
  clear hswap
  go_enter Try.func50, Try.ntmps50
  go_wp2_with (first | (go_at_call 69; refine (len_any _ _ _ _).mono ?_; rintro e w2 ⟨rfl, rfl⟩; clear hm) | (go_at_call 71; refine hsw.mono ?_; rintro e w1 ⟨rfl, ha, hw⟩; have HA1 := Aside0.mk ha; have HW1 := Aside0.mk hw; clear ha hw hsw))
  go_at_call 52
  obtain ⟨hR, hH, hA, hFq, hFg, hgq, hlt⟩ := HX.out
  have hl1 : (swap h 0 j).length = j + 1 := by rw [swap_length, HJ.out]
  have hR1 : Raw w1 q F (swap h 0 j) := Raw.of hl1 (hH.kept HW1.out (fun e => hgq e.symm)) HA1.out hFq hFg hgq (fun k hk => Nat.lt_of_lt_of_le (hlt k hk) HW1.out.size)
  have hs1 := HH.out.swapped
  rw [HJ.out, Nat.add_sub_cancel] at hs1
  have hd := down_any q F (swap h 0 j) 0 j w1 hR1 (Nat.zero_le _) (by omega) (by omega) (Down.start hs1)
  refine hd.mono ?_
  rintro e w2 ⟨b, rfl, l, hp, hheap, hlast, hT⟩
  have hll : l.length = j + 1 := by rw [hp.length_eq, hl1]
  obtain ⟨F2, hR2, hF2, hW2⟩ := hT
  obtain ⟨g2, cap2, hH2, hA2, hFq2, hFg2, hgq2, hlt2⟩ := hR2.lies (by omega)
  have hpop := pop_any q g2 cap2 l j w2 hll hH2 hA2 hgq2 (by omega)
  have hm3 := meth_pop ⟨q, 0, none⟩ w2
  have HY := Aside0.mk (And.intro hp (And.intro hheap (And.intro (hlast j (Nat.le_refl _)) (And.intro hll (And.intro hF2 (And.intro hW2 (And.intro hFq2 (And.intro hFg2 (And.intro hgq2 hlt2)))))))))
  clear hR hH hA hFq hFg hgq hlt hl1 hR1 hs1 hd hp hheap hlast hll hR2 hF2 hW2 hH2 hA2 hFq2 hFg2 hgq2 hlt2
  go_wp2_with (go_at_call 72; refine hpop.mono ?_; rintro e w3 ⟨rfl, hh3, ha3, hw3⟩; have HZ := Aside0.mk (And.intro hh3 (And.intro ha3 hw3)); clear hh3 ha3 hw3 hpop)
  go_ret
  obtain ⟨hp, hheap, hlast, hll, hF2, hW2, hFq2, hFg2, hgq2, hlt2⟩ := HY.out
  obtain ⟨hh3, ha3, hw3⟩ := HZ.out
  have hj1 : h.length - 1 = j := by rw [HJ.out]; rfl
  obtain ⟨em, hhs⟩ := HH.out.popped (l := l) (by rw [hj1]; exact hp) (by rw [hj1]; exact hheap) (by rw [hj1]; exact hlast)
  rw [hj1] at em hhs
  obtain ⟨hR, hH, hA, hFq, hFg, hgq, hlt⟩ := HX.out
  refine ⟨by rw [em]; rfl, F2, ⟨l.take j, hhs, Raw.of (by simp; omega) hh3 ha3 hFq2 hFg2 hgq2 (fun k hk => Nat.lt_of_lt_of_le (hlt2 k hk) hw3.size)⟩, fun k hk => ?_, ?_⟩
  · rcases hF2 k hk with h | h
    · exact .inl h
    · exact .inr (Nat.le_trans HW1.out.size h)
  · have h1 : Went F w w1 := HW1.out.mono (fun k hk => by subst hk; exact hFg)
    exact (h1.trans hW2 (fun _ h => h) (fun _ h => .inl h)).trans hw3 (fun _ h => h) (fun k hk => by subst hk; exact .inl hFq)

end Go.Proofs.Ytjhdjkanepdgiaa.Due

namespace Go.Proofs.Ytjhdjkanepdgiaa.Due
open Go.RowKit Go.Proofs.Ytjhdjkanepdgiaa.Pa Go.Proofs.YtjhdjkanepdgiaaW.PrintWords Go.Proofs.YtjhdjkanepdgiaaW.PrintLast Go.Proofs.YtjhdjkanepdgiaaW.PrintMore
set_option linter.unusedVariables false

theorem Que.kept {w W : World} {q : Nat} {F S : Nat → Prop} {s : List D} (k : Que w q F s) (hw : Went S w W) (hn : ∀ k, F k → ¬ S k) : Que W q F s := by
  obtain ⟨h, hh, hR⟩ := k
  exact ⟨h, hh, hR.kept hw hn⟩
theorem Que.below {w W : World} {q : Nat} {F : Nat → Prop} {s : List D} (k : Que w q F s) (hb : Below w.heap.size w W) : Que W q F s := k.kept (Went.of_below hb (fun _ => False)) (fun _ _ h => h)
theorem QTurned.after {w w1 w2 : World} {q : Nat} {F F1 : Nat → Prop} {s : List D} (hF : ∀ k, F1 k → F k ∨ w.heap.size ≤ k) (hW : Went F w w1) (k : QTurned w1 q F1 s w2) : QTurned w q F s w2 := by
  obtain ⟨F2, k1, k2, k3⟩ := k
  refine ⟨F2, k1, fun k hk => ?_, hW.trans k3 (fun _ h => h) hF⟩
  rcases k2 k hk with h | h
  · exact hF k h
  · exact .inr (Nat.le_trans hW.size h)
theorem QTurned.behind {w w1 w2 : World} {q : Nat} {F : Nat → Prop} {s : List D} (hb : Below w.heap.size w w1) (k : QTurned w1 q F s w2) : QTurned w q F s w2 :=
  k.after (fun _ h => .inl h) (Went.of_below hb F)
/-- A box of two cells, laid ahead of a call. -/
theorem box2 {w w1 : World} {a b : Value} {e : TypeId} (hb : Below (w.alloc (.cells #[a, b] e)).heap.size (w.alloc (.cells #[a, b] e)) w1) :
    w1.cell? ⟨w.heap.size, 0, none⟩ = some a ∧ w1.cell? ⟨w.heap.size, 1, none⟩ = some b ∧ w1.frozen? ⟨w.heap.size, 0, none⟩ = false ∧ w1.frozen? ⟨w.heap.size, 1, none⟩ = false ∧ w.heap.size < w1.heap.size := by
  have h : w1.heap[w.heap.size]? = some (.cells #[a, b] e (0, 0)) := (hb.block _ (by simp)).trans (heap_alloc_new w _)
  exact ⟨by rw [cell_of_row _ _ _ _ _ _ h]; rfl, by rw [cell_of_row _ _ _ _ _ _ h]; rfl, by simp [World.frozen?, h], by simp [World.frozen?, h], (Array.getElem?_eq_some_iff.1 h).1⟩
theorem fin2 {w w1 : World} {o : Obj} {u v : Value} (o2 : Obj) (hb : Below (w.alloc o).heap.size (w.alloc o) w1) : Below w.heap.size w (((w1.setCell ⟨w.heap.size, 0, none⟩ u).setCell ⟨w.heap.size, 1, none⟩ v).alloc o2) := by
  have h1 : Below w.heap.size w w1 := below_then ((Below.refl _ _).alloc (Nat.le_refl _) _) (by simp) hb
  have h2 := (h1.setCell (p := ⟨w.heap.size, 0, none⟩) (Nat.le_refl _) u).setCell (p := ⟨w.heap.size, 1, none⟩) (Nat.le_refl _) v
  exact h2.alloc h2.size o2
theorem Que.lt {w : World} {q : Nat} {F : Nat → Prop} {s : List D} (k : Que w q F s) : ∀ k, F k → k < w.heap.size := by
  obtain ⟨h, hh, A, cap, h1, h2, h3, h4, h5⟩ := k
  exact h5
theorem box_kept {w w1 w2 : World} {q : Nat} {F : Nat → Prop} {s : List D} {a b : Value} {o : Obj} (b0 : w1.cell? ⟨w.heap.size, 0, none⟩ = some a) (b1 : w1.cell? ⟨w.heap.size, 1, none⟩ = some b) (b2 : w1.frozen? ⟨w.heap.size, 0, none⟩ = false) (b3 : w1.frozen? ⟨w.heap.size, 1, none⟩ = false)
    (ht : QTurned (w1.alloc o) q F s w2) (hF : ∀ k, F k → k < w.heap.size) :
    w2.cell? ⟨w.heap.size, 0, none⟩ = some a ∧ w2.cell? ⟨w.heap.size, 1, none⟩ = some b ∧ w2.frozen? ⟨w.heap.size, 0, none⟩ = false ∧ w2.frozen? ⟨w.heap.size, 1, none⟩ = false := by
  obtain ⟨F', h1, h2, h3⟩ := ht
  have hlt : w.heap.size < w1.heap.size := World.block_lt_of_cell? w1 _ b0
  have hb : w2.heap[w.heap.size]? = w1.heap[w.heap.size]? := (h3.kept.2 _ (by simp; omega) (fun h => by have := hF _ h; omega)).trans (Below.heap_alloc w1 o _ hlt)
  exact ⟨(World.cell?_of_block (a := ⟨w.heap.size, 0, none⟩) hb).trans b0, (World.cell?_of_block (a := ⟨w.heap.size, 1, none⟩) hb).trans b1, (World.frozen?_of_block (a := ⟨w.heap.size, 0, none⟩) hb).trans b2, (World.frozen?_of_block (a := ⟨w.heap.size, 1, none⟩) hb).trans b3⟩
theorem fin3 {w W w2 : World} {q : Nat} {F : Nat → Prop} {s : List D} {u v : Value} (hb : Below w.heap.size w W) (hlt : w.heap.size < W.heap.size) (hF : ∀ k, F k → k < w.heap.size) (ht : QTurned W q F s w2) :
    QTurned w q F s ((w2.setCell ⟨w.heap.size, 0, none⟩ u).setCell ⟨w.heap.size, 1, none⟩ v) := by
  obtain ⟨F', h1, h2, h3⟩ := ht
  have hs : Went (fun k => k = w.heap.size) w2 ((w2.setCell ⟨w.heap.size, 0, none⟩ u).setCell ⟨w.heap.size, 1, none⟩ v) := ((Went.refl _ w2).setq _ _).setq _ _
  refine ⟨F', h1.kept hs (fun k hk e => ?_), fun k hk => ?_, ?_⟩
  · subst e
    rcases h2 _ hk with h | h
    · have := hF _ h; omega
    · omega
  · rcases h2 k hk with h | h
    · exact .inl h
    · exact .inr (by omega)
  · exact ((Went.of_below hb F).trans h3 (fun _ h => h) (fun _ h => .inl h)).trans hs (fun _ h => h) (fun k hk => .inr (by omega))
theorem Que.head {w : World} {q : Nat} {F : Nat → Prop} {s : List D} (k : Que w q F s) : ∃ A cap, w.cell? ⟨q, 0, none⟩ = some (.slice A s.length cap) := by
  obtain ⟨h, hh, hR⟩ := k
  rw [← hh.length]
  exact hR.head

theorem qlen_any (q : Nat) (F : Nat → Prop) (s : List D) (w : World) (hQ : Que w q F s) : Calls Try.prog 51 #[.pointer (some ⟨q, 0, none⟩)] w fun e w' => e = .returned (.int .i64 s.length) ∧ w = w' := by
  obtain ⟨A, cap, hc⟩ := hQ.head
  clear hQ
  go_enter Try.func51, Try.ntmps51
  go_wp2
  go_ret
  exact ⟨rfl, rfl⟩
set_option maxRecDepth 100000 in
set_option maxHeartbeats 4000000 in
theorem qput_any (q : Nat) (F : Nat → Prop) (s : List D) (x : D) (w : World) (hQ : Que w q F s) (hn : s.length ≤ 1099511627775) :
    Calls Try.prog 37 #[.pointer (some ⟨q, 0, none⟩), .agg #[.int .i64 x.f0, .int .i64 x.f1]] w fun e w' => e = .returned (.tuple #[]) ∧ QTurned w q F (ins x s) w' := by
  have hp := fun W (hb : Below w.heap.size w W) => hpush_any q F s x W (hQ.below hb) hn
  clear hQ
  go_enter Try.func37, Try.ntmps37
  go_wp2
  go_region_with (go_at_call 43; refine (hp _ (((Below.refl _ _).alloc (Nat.le_refl _) _).drew)).mono ?_; rintro e w1 ⟨rfl, ht⟩; have HT := Aside0.mk ht; clear ht hp)
  go_end0
  exact ⟨rfl, HT.out.behind (((Below.refl _ _).alloc (Nat.le_refl _) _).drew)⟩
set_option maxRecDepth 100000 in
theorem qfirst_none (q : Nat) (F : Nat → Prop) (w : World) (hQ : Que w q F []) :
    Calls Try.prog 49 #[.pointer (some ⟨q, 0, none⟩)] w fun e w' => e = .returned (.tuple #[.agg #[.int .i64 0, .int .i64 0], .bool false]) ∧ Below w.heap.size w w' := by
  have hl := fun W (hb : Below w.heap.size w W) => qlen_any q F [] W (hQ.below hb)
  clear hQ
  go_enter Try.func49, Try.ntmps49
  go_wp2_with (go_at_call 51; refine (hl _ ((Below.refl _ _).alloc (Nat.le_refl _) _)).mono ?_; rintro e w1 ⟨rfl, rfl⟩; clear hl)
  exact bodyPost_ret (v := .tuple #[.agg #[.int .i64 0, .int .i64 0], .bool false]) (by simp [results, Try.results49, go_sem]) rfl ⟨rfl, (Below.refl _ _).alloc (Nat.le_refl _) _⟩
theorem Que.first {w : World} {q : Nat} {F : Nat → Prop} {s : List D} {m : D} (k : Que w q F (m :: s)) : ∃ g cap, w.cell? ⟨q, 0, none⟩ = some (.slice (some ⟨g, 0, none⟩) (s.length + 1) cap) ∧ w.cell? ⟨g, 0, none⟩ = some (.int .i64 m.f0) ∧ w.cell? ⟨g, 1, none⟩ = some (.int .i64 m.f1) ∧ q < w.heap.size ∧ g < w.heap.size := by
  obtain ⟨h, hh, hR⟩ := k
  obtain ⟨e0, hl⟩ := hh.first
  have hlen := hh.length
  obtain ⟨g, cap, hH, hA, hFq, hFg, hgq, hlt⟩ := hR.lies hl
  obtain ⟨c0, c1, _, _⟩ := hA.cells 0 hl
  rw [e0] at c0 c1
  rw [hlen] at hH
  exact ⟨g, cap, hH.cell.1, c0, c1, hlt q hFq, hlt g hFg⟩
set_option maxRecDepth 100000 in
theorem qfirst_some (q : Nat) (F : Nat → Prop) (m : D) (s : List D) (w : World) (hQ : Que w q F (m :: s)) :
    Calls Try.prog 49 #[.pointer (some ⟨q, 0, none⟩)] w fun e w' => e = .returned (.tuple #[.agg #[.int .i64 m.f0, .int .i64 m.f1], .bool true]) ∧ Below w.heap.size w w' := by
  have hl := fun W (hb : Below w.heap.size w W) => qlen_any q F (m :: s) W (hQ.below hb)
  obtain ⟨g, cap, hc, c0, c1, hq, hg⟩ := hQ.first
  have hz : (((s.length + 1 : Nat) : Int) == 0) = false := beq_eq_false_iff_ne.2 (by omega)
  have hz2 : ((s.length : Int) + 1 == 0) = false := beq_eq_false_iff_ne.2 (by omega)
  clear hQ
  go_enter Try.func49, Try.ntmps49
  go_wp2_with (go_at_call 51; refine (hl _ ((Below.refl _ _).alloc (Nat.le_refl _) _)).mono ?_; rintro e w1 ⟨rfl, rfl⟩; clear hl)
  exact bodyPost_ret (v := .tuple #[.agg #[.int .i64 m.f0, .int .i64 m.f1], .bool true]) (by simp [results, Try.results49, go_sem]) rfl ⟨rfl, (Below.refl _ _).alloc (Nat.le_refl _) _⟩
set_option maxRecDepth 100000 in
set_option maxHeartbeats 4000000 in
theorem qtake_none (q : Nat) (F : Nat → Prop) (s : List D) (now : Int) (w : World) (hQ : Que w q F s) (hn : ∀ m t, s = m :: t → now < m.f0) :
    Calls Try.prog 45 #[.pointer (some ⟨q, 0, none⟩), .int .i64 now] w fun e w' => e = .returned (.tuple #[.agg #[.int .i64 0, .int .i64 0], .bool false]) ∧ Below w.heap.size w w' := by
  cases s with
  | nil =>
    have hf := fun W (hb : Below w.heap.size w W) => qfirst_none q F W (hQ.below hb)
    clear hQ hn
    go_enter Try.func45, Try.ntmps45
    go_wp2_with (go_at_call 49; refine (hf _ ((Below.refl _ _).alloc (Nat.le_refl _) _)).mono ?_; rintro e w1 ⟨rfl, hb⟩; have HB := Aside0.mk hb; obtain ⟨b0, b1, b2, b3, b4⟩ := box2 hb; clear hf hb)
    refine bodyPost_ret (v := .tuple #[.agg #[.int .i64 0, .int .i64 0], .bool false]) (by simp [results, Try.results45, b0, b1, b4, go_sem]) rfl ⟨rfl, ?_⟩
    exact fin2 _ HB.out
  | cons m t => 
    have hf := fun W (hb : Below w.heap.size w W) => qfirst_some q F m t W (hQ.below hb)
    have hlt : decide (now < m.f0) = true := decide_eq_true (hn m t rfl)
    clear hQ hn
    go_enter Try.func45, Try.ntmps45
    go_wp2_with (go_at_call 49; refine (hf _ ((Below.refl _ _).alloc (Nat.le_refl _) _)).mono ?_; rintro e w1 ⟨rfl, hb⟩; have HB := Aside0.mk hb; obtain ⟨b0, b1, b2, b3, b4⟩ := box2 hb; clear hf hb)
    refine bodyPost_ret (v := .tuple #[.agg #[.int .i64 0, .int .i64 0], .bool false]) (by simp [results, Try.results45, b0, b1, b4, go_sem]) rfl ⟨rfl, ?_⟩
    exact fin2 _ HB.out
set_option maxRecDepth 100000 in
set_option maxHeartbeats 8000000 in
theorem qtake_some (q : Nat) (F : Nat → Prop) (m : D) (t : List D) (now : Int) (w : World) (hQ : Que w q F (m :: t)) (hn : m.f0 ≤ now) (hl : t.length ≤ 1099511627775) :
    Calls Try.prog 45 #[.pointer (some ⟨q, 0, none⟩), .int .i64 now] w fun e w' => e = .returned (.tuple #[.agg #[.int .i64 m.f0, .int .i64 m.f1], .bool true]) ∧ QTurned w q F t w' := by
  have hf := fun W (hb : Below w.heap.size w W) => qfirst_some q F m t W (hQ.below hb)
  have hp := fun W (hb : Below w.heap.size w W) => hpop_any q F t m W (hQ.below hb) hl
  have ta := fun w => assert_due m.f0 m.f1 w
  have hlt : decide (now < m.f0) = false := decide_eq_false (by omega)
  have HF := Aside0.mk hQ.lt
  clear hQ hn
  go_enter Try.func45, Try.ntmps45
  go_wp2_with (first | (go_at_call 49; refine (hf _ ((Below.refl _ _).alloc (Nat.le_refl _) _)).mono ?_; rintro e w1 ⟨rfl, hb⟩; have HB := Aside0.mk hb; obtain ⟨b0, b1, b2, b3, b4⟩ := box2 hb; clear hf hb) | (go_at_call 50; refine (hp _ ((below_then ((Below.refl _ _).alloc (Nat.le_refl _) _) (by simp) HB.out).alloc (Nat.le_of_lt b4) _)).mono ?_; rintro e w2 ⟨rfl, ht⟩; have HT := Aside0.mk ht; obtain ⟨c0, c1, c2, c3⟩ := box_kept (w1 := w1) b0 b1 b2 b3 ht HF.out; clear hp ht))
  refine bodyPost_ret (v := .tuple #[.agg #[.int .i64 m.f0, .int .i64 m.f1], .bool true]) (by simp [results, Try.results45, c0, c1, go_sem]) rfl ⟨rfl, ?_⟩
  have hw1 : Below w.heap.size w w1 := below_then ((Below.refl _ _).alloc (Nat.le_refl _) _) (by simp) HB.out
  exact fin3 (hw1.alloc (Nat.le_of_lt b4) _) (by simp; omega) HF.out HT.out
end Go.Proofs.Ytjhdjkanepdgiaa.Due
