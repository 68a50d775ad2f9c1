/- What the library's sifting down comes to over the queue's row. No conditions beside those that each contract states. -/
import Derived.Test.YtghgjjpddemjkaaDueUp
namespace Go.Proofs.Ytghgjjpddemjkaa.Due
open Go.RowKit Go.Proofs.Ytghgjjpddemjkaa.Pa Go.Proofs.YtghgjjpddemjkaaW.PrintWords Go.Proofs.YtghgjjpddemjkaaW.PrintLast Go.Proofs.YtghgjjpddemjkaaW.PrintMore
set_option linter.unusedVariables false

theorem swap_perm_at {l : List D} {i j k : Nat} (hi : i < l.length) (hj : j < l.length) (h1 : k ≠ i) (h2 : k ≠ j) : at' (swap l i j) k = at' l k := by
  rw [at_swap _ _ _ _ hi hj, if_neg h2, if_neg h1]
set_option maxRecDepth 100000 in
set_option maxHeartbeats 16000000 in
theorem down_any (q : Nat) (F : Nat → Prop) (h : List D) (i0 n : Nat) (w : World) (hR : Raw w q F h) (hi0 : i0 ≤ n) (hnl : n ≤ h.length) (hn : h.length ≤ 1099511627776) (hU : Down h n i0 i0) :
    Calls Try.prog 23 #[.iface 46 (.pointer (some ⟨q, 0, none⟩)), .int .i64 i0, .int .i64 n] w fun e w' => ∃ b : Bool, e = .returned (.bool b) ∧ ∃ l, l.Perm h ∧ Heap l n i0 ∧ (∀ k, n ≤ k → at' l k = at' h k) ∧ Turned w q F l w' := by
  have HR := Aside0.mk (Turned.refl hR)
  have HU := Aside0.mk hU
  have HP := Aside0.mk (List.Perm.refl h)
  clear hU hR
  go_enter Try.func23, Try.ntmps23
  go_wp2
  go_loopw [7] (fun iv wr => ∃ (i : Nat) (l : List D), iv = .int .i64 i ∧ i ≤ n ∧ Aside0 (Down l n i0 i) ∧ Aside0 (l.Perm h) ∧ Aside0 (∀ k, n ≤ k → at' l k = at' h k) ∧ Aside0 (Turned w q F l wr)) (fun iv _ => h.length - (intOf iv).toNat)
  case atStart => exact ⟨i0, h, rfl, hi0, HU, HP, ⟨fun _ _ => rfl⟩, HR⟩
  case round =>
    clear HU HR HP
    obtain ⟨i, l, rfl, hin, HU, HP, HK, HR⟩ := hrel
    obtain ⟨a, ha⟩ : ∃ a, a = 2 * i + 1 := ⟨_, rfl⟩
    have e1 : 2 * (i : Int) + 1 = (a : Int) := by omega
    have HA := Aside0.mk ha
    by_cases c1 : n ≤ a
    · clear ha
      go_wp2
      go_ret
      exact ⟨_, rfl, l, HP.out, HU.out.stop (fun k hk k0 hp => by have := HA.out; omega), HK.out, HR.out⟩
    · have hl0 : l.length = h.length := HP.out.length_eq
      obtain ⟨F1, hR1, hF1, hW1⟩ := HR.out
      obtain ⟨g, cap, hH, hArr, hFq, hFg, hgq, hlt⟩ := hR1.lies (by omega)
      obtain ⟨b, hb⟩ : ∃ b, b = a + 1 := ⟨_, rfl⟩
      have e2 : (a : Int) + 1 = (b : Int) := by omega
      have HB := Aside0.mk hb
      have hm := meth_less q _ _ _ _ hH.cell.1
      have hln : l.length ≤ 1099511627776 := by omega
      have lss := fun (x y : Nat) (W : World) (hb : Below wr.heap.size wr W) (hx : x < n) (hy : y < n) => less_any g cap l x y W (hArr.kept (Went.of_below hb (fun _ => False)) (fun h => h)) (by omega) (by omega) hln
      have swp := fun (x y : Nat) (W : World) (hb : Below wr.heap.size wr W) (hx : x < n) (hy : y < n) => swap_any g cap l x y W (hArr.kept (Went.of_below hb (fun _ => False)) (fun h => h)) (by omega) (by omega) hln
      have mls := fun (W : World) (hb : Below wr.heap.size wr W) => meth_less q _ _ _ W ((hH.kept (Went.of_below hb (fun _ => False)) (fun h => h)).cell.1)
      have msw := fun (W : World) (hb : Below wr.heap.size wr W) => meth_swap q _ _ _ W ((hH.kept (Went.of_below hb (fun _ => False)) (fun h => h)).cell.1)
      have MLS := Aside0.mk mls
      have MSW := Aside0.mk msw
      have HX := Aside0.mk (And.intro hR1 (And.intro hF1 (And.intro hW1 (And.intro hH (And.intro hArr (And.intro hFq (And.intro hFg (And.intro hgq hlt))))))))
      have HL := Aside0.mk hl0
      clear ha hb hF1 hW1 hR1 hFq hFg hgq hlt hArr hH mls msw hl0
      by_cases c2 : b < n
      · have hl1 := lss b a wr (Below.refl _ _) c2 (by omega)
        cases d1 : lt (at' l b) (at' l a) with
        | false =>
          rw [d1] at hl1
          have HC1 := Aside0.mk d1
          clear d1
          have hl2 := fun W hb => lss a i W hb (by omega) (by have := HA.out; omega)
          cases d2 : lt (at' l a) (at' l i) with
          | false =>
            rw [d2] at hl2
            have HC2 := Aside0.mk d2
            have hsw := fun W hb => swp i a W hb (by have := HA.out; omega) (by omega)
            clear d2 lss swp
            go_wp2_with (first | (go_at_call 42; refine hl1.mono ?_; rintro e w1 ⟨rfl, hb⟩; have HB1 := Aside0.mk hb; have hm2 := MLS.out w1 hb; clear hb hl1) | (go_at_call 42; refine (hl2 _ HB1.out).mono ?_; rintro e w2 ⟨rfl, hb⟩; have HB2 := Aside0.mk (below_then HB1.out HB1.out.size hb); have hm3 := MSW.out w2 HB2.out; clear hb hl2))
            go_ret
            exact ⟨_, rfl, l, HP.out, HU.out.stop (fun k hk k0 hp => by
              have := HA.out; have := HB.out
              rcases (show k = a ∨ k = b by omega) with rfl | rfl
              · exact HC2.out
              · exact le_trans HC2.out HC1.out
            ), HK.out, HR.out.trans (fun F2 hF2 hs => ⟨F2, hF2.kept (Went.of_below HB2.out (fun _ => False)) (fun _ _ h => h), fun k hk => .inl hk, Went.of_below HB2.out _⟩)⟩
          | true =>
            rw [d2] at hl2
            have HC2 := Aside0.mk d2
            have hsw := fun W hb => swp i a W hb (by have := HA.out; omega) (by omega)
            clear d2 lss swp
            go_wp2_with (first | (go_at_call 42; refine hl1.mono ?_; rintro e w1 ⟨rfl, hb⟩; have HB1 := Aside0.mk hb; have hm2 := MLS.out w1 hb; clear hb hl1) | (go_at_call 42; refine (hl2 _ HB1.out).mono ?_; rintro e w2 ⟨rfl, hb⟩; have HB2 := Aside0.mk (below_then HB1.out HB1.out.size hb); have hm3 := MSW.out w2 HB2.out; clear hb hl2) | (go_at_call 43; refine (hsw _ HB2.out).mono ?_; rintro e ws ⟨rfl, ha, hw⟩; have HAS := Aside0.mk ha; have HWS := Aside0.mk hw; clear ha hw))
            refine ⟨⟨a, swap l i a, rfl, by omega, ⟨?_⟩, ⟨(swap_perm _ _ _ (by have := HL.out; omega) (by have := HL.out; omega)).trans HP.out⟩, ⟨fun k hk => (swap_perm_at (by have := HL.out; omega) (by have := HL.out; omega) (by have := HA.out; omega) (by omega)).trans (HK.out k hk)⟩, ⟨?_⟩⟩, by have := HA.out; have := HB.out; simp [intOf]; omega⟩
            · refine HU.out.step (by have := HL.out; omega) (by omega) (by have := HA.out; have := HB.out; omega) (by have := HA.out; have := HB.out; omega) HC2.out (fun k k0 hk hp => ?_)
              have := HA.out; have := HB.out
              rcases (show k = a ∨ k = b by omega) with rfl | rfl
              · exact lt_irrefl _
              · exact HC1.out
            · obtain ⟨hR1, hF1, hW1, hH, hA, hFq, hFg, hgq, hlt⟩ := HX.out
              have hw1 := (Went.of_below HB2.out (fun _ => False)).trans (U := F1) HWS.out (fun _ h => h.elim) (fun k hk => .inl (by subst hk; exact hFg))
              refine ⟨F1, Raw.of (swap_length _ _ _) ((hH.kept (Went.of_below HB2.out (fun _ => False)) (fun h => h)).kept HWS.out (fun e => hgq e.symm)) HAS.out hFq hFg hgq (fun k hk => Nat.lt_of_lt_of_le (hlt k hk) hw1.size), hF1, hW1.trans hw1 (fun _ h => h) hF1⟩
        | true =>
          rw [d1] at hl1
          have HC1 := Aside0.mk d1
          clear d1
          have hl2 := fun W hb => lss b i W hb (by omega) (by have := HA.out; omega)
          cases d2 : lt (at' l b) (at' l i) with
          | false =>
            rw [d2] at hl2
            have HC2 := Aside0.mk d2
            have hsw := fun W hb => swp i b W hb (by have := HA.out; omega) (by omega)
            clear d2 lss swp
            go_wp2_with (first | (go_at_call 42; refine hl1.mono ?_; rintro e w1 ⟨rfl, hb⟩; have HB1 := Aside0.mk hb; have hm2 := MLS.out w1 hb; clear hb hl1) | (go_at_call 42; refine (hl2 _ HB1.out).mono ?_; rintro e w2 ⟨rfl, hb⟩; have HB2 := Aside0.mk (below_then HB1.out HB1.out.size hb); have hm3 := MSW.out w2 HB2.out; clear hb hl2))
            go_ret
            exact ⟨_, rfl, l, HP.out, HU.out.stop (fun k hk k0 hp => by
              have := HA.out; have := HB.out
              rcases (show k = a ∨ k = b by omega) with rfl | rfl
              · exact le_trans HC2.out (lt_asymm HC1.out)
              · exact HC2.out
            ), HK.out, HR.out.trans (fun F2 hF2 hs => ⟨F2, hF2.kept (Went.of_below HB2.out (fun _ => False)) (fun _ _ h => h), fun k hk => .inl hk, Went.of_below HB2.out _⟩)⟩
          | true =>
            rw [d2] at hl2
            have HC2 := Aside0.mk d2
            have hsw := fun W hb => swp i b W hb (by have := HA.out; omega) (by omega)
            clear d2 lss swp
            go_wp2_with (first | (go_at_call 42; refine hl1.mono ?_; rintro e w1 ⟨rfl, hb⟩; have HB1 := Aside0.mk hb; have hm2 := MLS.out w1 hb; clear hb hl1) | (go_at_call 42; refine (hl2 _ HB1.out).mono ?_; rintro e w2 ⟨rfl, hb⟩; have HB2 := Aside0.mk (below_then HB1.out HB1.out.size hb); have hm3 := MSW.out w2 HB2.out; clear hb hl2) | (go_at_call 43; refine (hsw _ HB2.out).mono ?_; rintro e ws ⟨rfl, ha, hw⟩; have HAS := Aside0.mk ha; have HWS := Aside0.mk hw; clear ha hw))
            refine ⟨⟨b, swap l i b, rfl, by omega, ⟨?_⟩, ⟨(swap_perm _ _ _ (by have := HL.out; omega) (by have := HL.out; omega)).trans HP.out⟩, ⟨fun k hk => (swap_perm_at (by have := HL.out; omega) (by have := HL.out; omega) (by have := HA.out; omega) (by omega)).trans (HK.out k hk)⟩, ⟨?_⟩⟩, by have := HA.out; have := HB.out; simp [intOf]; omega⟩
            · refine HU.out.step (by have := HL.out; omega) (by omega) (by have := HA.out; have := HB.out; omega) (by have := HA.out; have := HB.out; omega) HC2.out (fun k k0 hk hp => ?_)
              have := HA.out; have := HB.out
              rcases (show k = a ∨ k = b by omega) with rfl | rfl
              · exact lt_asymm HC1.out
              · exact lt_irrefl _
            · obtain ⟨hR1, hF1, hW1, hH, hA, hFq, hFg, hgq, hlt⟩ := HX.out
              have hw1 := (Went.of_below HB2.out (fun _ => False)).trans (U := F1) HWS.out (fun _ h => h.elim) (fun k hk => .inl (by subst hk; exact hFg))
              refine ⟨F1, Raw.of (swap_length _ _ _) ((hH.kept (Went.of_below HB2.out (fun _ => False)) (fun h => h)).kept HWS.out (fun e => hgq e.symm)) HAS.out hFq hFg hgq (fun k hk => Nat.lt_of_lt_of_le (hlt k hk) hw1.size), hF1, hW1.trans hw1 (fun _ h => h) hF1⟩
      · have c2' : decide ((b : Int) < (n : Int)) = false := decide_eq_false (by omega)
        have hl2 := fun W hb => lss a i W hb (by omega) (by have := HA.out; omega)
        cases d2 : lt (at' l a) (at' l i) with
        | false =>
          rw [d2] at hl2
          have HC2 := Aside0.mk d2
          have hsw := fun W hb => swp i a W hb (by have := HA.out; omega) (by omega)
          clear d2 lss swp
          go_wp2_with (first | (go_at_call 42; refine (hl2 _ (Below.refl _ _)).mono ?_; rintro e w1 ⟨rfl, hb⟩; have HB1 := Aside0.mk hb; have hm3 := MSW.out w1 hb; clear hb hl2))
          go_ret
          exact ⟨_, rfl, l, HP.out, HU.out.stop (fun k hk k0 hp => by
            have := HA.out; have := HB.out
            rcases (show k = a ∨ k = b by omega) with rfl | rfl
            · exact HC2.out
            · exact absurd hk (by omega)
          ), HK.out, HR.out.trans (fun F2 hF2 hs => ⟨F2, hF2.kept (Went.of_below HB1.out (fun _ => False)) (fun _ _ h => h), fun k hk => .inl hk, Went.of_below HB1.out _⟩)⟩
        | true =>
          rw [d2] at hl2
          have HC2 := Aside0.mk d2
          have hsw := fun W hb => swp i a W hb (by have := HA.out; omega) (by omega)
          clear d2 lss swp
          go_wp2_with (first | (go_at_call 42; refine (hl2 _ (Below.refl _ _)).mono ?_; rintro e w1 ⟨rfl, hb⟩; have HB1 := Aside0.mk hb; have hm3 := MSW.out w1 hb; clear hb hl2) | (go_at_call 43; refine (hsw _ HB1.out).mono ?_; rintro e ws ⟨rfl, ha, hw⟩; have HAS := Aside0.mk ha; have HWS := Aside0.mk hw; clear ha hw))
          refine ⟨⟨a, swap l i a, rfl, by omega, ⟨?_⟩, ⟨(swap_perm _ _ _ (by have := HL.out; omega) (by have := HL.out; omega)).trans HP.out⟩, ⟨fun k hk => (swap_perm_at (by have := HL.out; omega) (by have := HL.out; omega) (by have := HA.out; omega) (by omega)).trans (HK.out k hk)⟩, ⟨?_⟩⟩, by have := HA.out; have := HB.out; simp [intOf]; omega⟩
          · refine HU.out.step (by have := HL.out; omega) (by omega) (by have := HA.out; have := HB.out; omega) (by have := HA.out; have := HB.out; omega) HC2.out (fun k k0 hk hp => ?_)
            have := HA.out; have := HB.out
            rcases (show k = a ∨ k = b by omega) with rfl | rfl
            · exact lt_irrefl _
            · exact absurd hk (by omega)
          · obtain ⟨hR1, hF1, hW1, hH, hA, hFq, hFg, hgq, hlt⟩ := HX.out
            have hw1 := (Went.of_below HB1.out (fun _ => False)).trans (U := F1) HWS.out (fun _ h => h.elim) (fun k hk => .inl (by subst hk; exact hFg))
            refine ⟨F1, Raw.of (swap_length _ _ _) ((hH.kept (Went.of_below HB1.out (fun _ => False)) (fun h => h)).kept HWS.out (fun e => hgq e.symm)) HAS.out hFq hFg hgq (fun k hk => Nat.lt_of_lt_of_le (hlt k hk) hw1.size), hF1, hW1.trans hw1 (fun _ h => h) hF1⟩
end Go.Proofs.Ytghgjjpddemjkaa.Due
