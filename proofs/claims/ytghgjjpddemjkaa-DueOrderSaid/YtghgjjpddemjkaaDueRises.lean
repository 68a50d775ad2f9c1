/- What is taken rises, all whose time has come are taken, and no other (DueRisesSaid): the walk. No conditions. -/
import Derived.Test.YtghgjjpddemjkaaDueAwake
import Derived.Test.YtghgjjpddemjkaaDueGot
import Derived.Test.YtghgjjpddemjkaaPaq
namespace Go.Proofs.Ytghgjjpddemjkaa.Due
open Go.RowKit Go.Proofs.Ytghgjjpddemjkaa.Pa Go.Proofs.YtghgjjpddemjkaaW.PrintWords Go.Proofs.YtghgjjpddemjkaaW.PrintLast Go.Proofs.YtghgjjpddemjkaaW.PrintMore
set_option linter.unusedVariables false

set_option maxRecDepth 100000 in
set_option maxHeartbeats 8000000 in
theorem dueRises_any (A : Option Addr) (c : Nat) (l : List D) (now : Int) (w : World) (hr : Kd.C k30 w A l.length l) : Calls Try.prog 3 #[.slice A l.length c, .int .i64 now] w fun e w' => e = .returned (.bool true) ∧ Below w.heap.size w w' := by
  have HR := Aside0.mk hr
  have hmax := Kd.C_max hr
  clear hr
  have p1 := awake_any w
  go_enter Try.func3, Try.ntmps3
  go_wp2_with fail
  go_at_call 8
  refine p1.mono ?_
  rintro e w1 ⟨rfl, hb⟩
  have HB := Aside0.mk hb
  clear p1 hb
  by_cases hlen : 100 < l.length
  · have h1 : decide ((100 : Int) < (l.length : Int)) = true := decide_eq_true (by omega)
    go_wp2
    go_ret
    exact ⟨rfl, HB.out⟩
  · have h1 : decide ((100 : Int) < (l.length : Int)) = false := decide_eq_false (by omega)
    have hl : l.length ≤ 100 := by omega
    clear hlen
    go_wp2
    go_loopw [7, 8] (fun cv iv wr => ∃ k : Nat, k ≤ l.length ∧ iv = .int .i64 k ∧ cv = .int .i64 ((l.take k).countP (come now) : Nat) ∧ Aside0 (Sit w wr [.que w1.heap.size (srt (l.take k))])) (fun _ iv _ => l.length - (intOf iv).toNat)
    case atStart => exact ⟨0, by omega, rfl, by simp, ⟨((Sit.refl w).behind HB.out).fresh⟩⟩
    case round =>
      obtain ⟨k, hk, rfl, rfl, HS⟩ := hrel
      by_cases hlt : k < l.length
      · obtain ⟨ad, rfl, c0, c1⟩ := at_due (Kd.C_below HR.out HS.out.below) k hlt
        have hcs := come_snoc now hlt
        have hss := srt_take hlt
        obtain ⟨x, hx⟩ : ∃ x, x = at' l k := ⟨_, rfl⟩
        rw [← hx] at c0 c1 hcs hss
        have hput := sit_put x HS.out (by rw [srt_length]; simp; omega)
        obtain ⟨m, hm⟩ : ∃ m, m = (l.take k).countP (come now) := ⟨_, rfl⟩
        have hmb : m ≤ 100 := by rw [hm]; have := List.countP_le_length (p := come now) (l := l.take k); simp at this; omega
        rw [← hm] at hcs ⊢
        have HCS := Aside0.mk hcs
        have HSS := Aside0.mk hss
        have HX := Aside0.mk hx
        clear hcs hss hx hm
        go_wp2_with fail
        go_at_call 9
        refine hput.mono ?_
        rintro e w2 ⟨rfl, hs⟩
        have HS2 := Aside0.mk hs
        obtain ⟨ad2, e2, d0, d1⟩ := at_due (Kd.C_below HR.out hs.below) k hlt
        cases e2
        rw [← HX.out] at d0 d1
        clear hput hs HS c0 c1
        by_cases hcm : x.f0 ≤ now
        · have hd : decide (x.f0 ≤ now) = true := decide_eq_true hcm
          have hcx : come now x = true := hd
          have HC := Aside0.mk hcx
          clear hcx hcm
          go_wp2
          exact ⟨⟨k + 1, by omega, by go_num, by rw [HCS.out, HC.out]; rfl, ⟨by rw [HSS.out]; exact HS2.out⟩⟩, by simp [intOf]; omega⟩
        · have hd : decide (x.f0 ≤ now) = false := decide_eq_false hcm
          have hcx : come now x = false := hd
          have HC := Aside0.mk hcx
          clear hcx hcm
          go_wp2
          exact ⟨⟨k + 1, by omega, by go_num, by rw [HCS.out, HC.out]; rfl, ⟨by rw [HSS.out]; exact HS2.out⟩⟩, by simp [intOf]; omega⟩
      · obtain rfl : k = l.length := by omega
        rw [List.take_length] at HS ⊢
        obtain ⟨s, hs0⟩ : ∃ s, s = srt l := ⟨_, rfl⟩
        have hsl : s.length = l.length := by rw [hs0, srt_length]
        have hsc : s.countP (come now) = l.countP (come now) := by rw [hs0]; exact (srt_sorted l).2.countP_eq _
        have hso : Sorted s := by rw [hs0]; exact (srt_sorted l).1
        obtain ⟨m, hm⟩ : ∃ m, m = l.countP (come now) := ⟨_, rfl⟩
        rw [← hs0] at HS
        rw [← hm] at hsc ⊢
        have hml : m ≤ l.length := by rw [hm]; exact List.countP_le_length
        have HSL := Aside0.mk hsl
        have HSC := Aside0.mk hsc
        have HSO := Aside0.mk hso
        clear hs0 hsl hsc hso hm
        go_wp2
        obtain ⟨wo, hwo⟩ : ∃ wo : World, wo = wr := ⟨_, rfl⟩
        have HS0 := Aside0.mk (HS.out.alloc #[.int .i64 0, .int .i64 0] 30)
        rw [← hwo] at HS0 ⊢
        clear HS hwo hlt hk
        go_loopw [10] (fun iv wr2 => ∃ (k : Nat) (p : D), iv = .int .i64 k ∧ k ≤ m ∧ Aside0 (k ≠ 0 → at' s (k - 1) = p) ∧ Aside0 (Sit w wr2 [.blk wo.heap.size (.cells #[.int .i64 p.f0, .int .i64 p.f1] 30 (0, 0)), .que w1.heap.size (s.drop k)])) (fun iv _ => m + 1 - (intOf iv).toNat)
        case atStart => exact ⟨0, ⟨0, 0⟩, rfl, Nat.zero_le _, ⟨fun h => absurd rfl h⟩, HS0⟩
        case round =>
          clear HS0
          obtain ⟨k, p, rfl, hkm, HP, HS⟩ := hrel
          have hkl : k ≤ l.length := by omega
          by_cases hlt : k < m
          · have hks : k < s.length := by have := HSL.out; omega
            have hx1 := (come_prefix now HSO.out k hks).2 (by have := HSC.out; omega)
            have hdr := drop_at hks
            have hlast : k ≠ 0 → lt (at' s k) p = false := fun h => by rw [← HP.out h]; exact sorted_le HSO.out (by omega) hks
            obtain ⟨x, hx⟩ : ∃ x, x = at' s k := ⟨_, rfl⟩
            rw [← hx] at hx1 hdr hlast
            have hxn : x.f0 ≤ now := of_decide_eq_true hx1
            have hs1 := HS.out.swap
            rw [hdr] at hs1
            have htk := sit_take_some now hs1 hxn (by have := HSL.out; simp; omega)
            have HX := Aside0.mk hx
            have HLAST := Aside0.mk hlast
            clear hx1 hdr hlast hx hs1 HS
            go_wp2_with fail
            go_at_call 10
            refine htk.mono ?_
            rintro e w2 ⟨rfl, hs⟩
            obtain ⟨c0, c1, c2, c3, c4⟩ := hs.swap.blk2
            have HS := Aside0.mk hs
            clear hs htk
            have hn1 : decide (now < x.f0) = false := decide_eq_false (by omega)
            have HE : ∀ W : World, Sit w W [.blk wo.heap.size (.cells #[.int .i64 x.f0, .int .i64 x.f1] 30 (0, 0)), .que w1.heap.size (s.drop (k + 1))] → Aside0 (k + 1 ≠ 0 → at' s (k + 1 - 1) = x) ∧ Aside0 (Sit w W [.blk wo.heap.size (.cells #[.int .i64 x.f0, .int .i64 x.f1] 30 (0, 0)), .que w1.heap.size (s.drop (k + 1))]) := fun W h => ⟨⟨fun _ => HX.out.symm⟩, ⟨h⟩⟩
            by_cases hk0 : k = 0
            · have hk1 : decide ((0 : Int) < (k : Int)) = false := decide_eq_false (by omega)
              go_wp2
              obtain ⟨q1, q2⟩ := HE _ (((HS.out.swap.set 0 (.int .i64 x.f0)).set 1 (.int .i64 x.f1)).skip (.cells #[.int .i64 x.f0, .int .i64 x.f1] 30))
              exact ⟨⟨k + 1, x, by go_num, by omega, q1, q2⟩, by simp [intOf]; omega⟩
            · have hk1 : decide ((0 : Int) < (k : Int)) = true := decide_eq_true (by omega)
              have hlast := HLAST.out hk0
              rw [lt_false] at hlast
              have g1 : decide (x.f0 < p.f0) = false := decide_eq_false (by omega)
              by_cases hq : x.f0 = p.f0
              · have g2 : (x.f0 == p.f0) = true := beq_iff_eq.2 hq
                have g3 : decide (x.f1 < p.f1) = false := decide_eq_false (by omega)
                clear hq hlast
                go_wp2
                obtain ⟨q1, q2⟩ := HE _ (((HS.out.swap.set 0 (.int .i64 x.f0)).set 1 (.int .i64 x.f1)).skip (.cells #[.int .i64 x.f0, .int .i64 x.f1] 30))
                exact ⟨⟨k + 1, x, by go_num, by omega, q1, q2⟩, by simp [intOf]; omega⟩
              · have g2 : (x.f0 == p.f0) = false := beq_eq_false_iff_ne.2 hq
                clear hq hlast
                go_wp2
                obtain ⟨q1, q2⟩ := HE _ (((HS.out.swap.set 0 (.int .i64 x.f0)).set 1 (.int .i64 x.f1)).skip (.cells #[.int .i64 x.f0, .int .i64 x.f1] 30))
                exact ⟨⟨k + 1, x, by go_num, by omega, q1, q2⟩, by simp [intOf]; omega⟩
          · obtain rfl : k = m := by omega
            have htk := sit_take_none now HS.out.swap (by
              intro q t he
              have hks : k < s.length := by
                rcases Nat.lt_or_ge k s.length with h | h
                · exact h
                · rw [List.drop_of_length_le h] at he; cases he
              rw [drop_at hks] at he
              injection he with he _
              have hx1 := come_prefix now HSO.out k hks
              rw [HSC.out, he] at hx1
              have h2 : ¬ come now q = true := fun h => absurd (hx1.1 h) (by omega)
              have h3 : ¬ q.f0 ≤ now := fun h => h2 (decide_eq_true h)
              omega)
            clear HS hlt hkm
            go_wp2_with fail
            go_at_call 10
            refine htk.mono ?_
            rintro e w2 ⟨rfl, hs⟩
            have hln := sit_len (hs.skip (.cells #[.int .i64 0, .int .i64 0] 30))
            have hdl : (s.drop k).length + k = l.length := by rw [List.length_drop]; have := HSL.out; omega
            obtain ⟨z, hz⟩ : ∃ z, z = (s.drop k).length := ⟨_, rfl⟩
            rw [← hz] at hln hdl
            have HS := Aside0.mk hs
            have hzz : ((z : Int) == (l.length : Int) - (k : Int)) = true := beq_iff_eq.2 (by omega)
            clear hs htk hz hdl
            go_wp2_with (go_at_call 11; refine hln.mono ?_; rintro e w3 ⟨rfl, rfl⟩)
            go_ret
            exact ⟨rfl, (HS.out.skip _).below⟩
theorem dueRises_calls (A0 : Option Addr) (c0 : Nat) (l0 : List D) (a1 : Int) (w : World) (hm : l0.length ≤ maxLen) (hw : ∀ z ∈ l0, qT30 z) (h1 : (Lit.int .i64 a1).wf = true) (hC : Kd.C k30 w A0 l0.length l0) (hc : l0.length ≤ c0) :
    Calls Try.prog 3 #[.slice A0 l0.length c0, .int .i64 a1] w fun e w' => e = .returned (.bool true) ∧ Below w.heap.size w w' := dueRises_any A0 c0 l0 a1 w hC
end Go.Proofs.Ytghgjjpddemjkaa.Due
