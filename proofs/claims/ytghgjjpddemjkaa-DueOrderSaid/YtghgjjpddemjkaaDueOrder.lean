/- In which order they are put does not matter; who is dropped is not taken (DueOrderSaid): the walk. No conditions. -/
import Derived.Test.YtghgjjpddemjkaaDueRises
import Derived.Test.YtghgjjpddemjkaaDueGot
namespace Go.Proofs.Ytghgjjpddemjkaa.Due
open Go.RowKit Go.Proofs.Ytghgjjpddemjkaa.Pa Go.Proofs.YtghgjjpddemjkaaW.PrintWords Go.Proofs.YtghgjjpddemjkaaW.PrintLast Go.Proofs.YtghgjjpddemjkaaW.PrintMore
set_option linter.unusedVariables false

theorem at_rev {l : List D} {k j : Nat} (h : j + k + 1 = l.length) : at' l.reverse k = at' l j := by
  rw [at_get (show j < l.length by omega), at_get (show k < l.reverse.length by simp; omega), List.getElem_reverse]
  congr 1
  omega
theorem srt_rev (l : List D) : srt l.reverse = srt l :=
  sorted_eq (srt_sorted _).1 (srt_sorted _).1 ((srt_sorted _).2.trans ((List.reverse_perm l).trans (srt_sorted l).2.symm))
theorem got_all {now : Int} {s : List D} (h : ∀ x ∈ s, x.f0 ≤ now) : due now s = ne s ∧ gotL now s = s.drop 1 := by
  cases s with
  | nil => exact ⟨rfl, rfl⟩
  | cons m t =>
    have hm : due now (m :: t) = true := decide_eq_true (h m (by simp))
    refine ⟨by rw [hm]; rfl, ?_⟩
    unfold gotL
    rw [hm]
    rfl
theorem got_hit {id : Int} {now : Int} {s : List D} (h : ∀ x ∈ s, hit id x = false) (hd' : due now s = true) : ((gotV now s).f1 == id) = false := by
  cases s with
  | nil => cases hd'
  | cons m t =>
    unfold gotV
    rw [hd']
    exact h m (by simp)
set_option maxRecDepth 100000 in
set_option maxHeartbeats 16000000 in
theorem dueOrder_any (A : Option Addr) (c : Nat) (l : List D) (id : Int) (w : World) (hr : Kd.C k30 w A l.length l) : Calls Try.prog 6 #[.slice A l.length c, .int .i64 id] w fun e w' => e = .returned (.bool true) ∧ Below w.heap.size w w' := by
  have HR := Aside0.mk hr
  have hmax := Kd.C_max hr
  clear hr
  have p1 := awake_any w
  go_enter Try.func6, Try.ntmps6
  go_wp2_with fail
  go_at_call 8
  refine p1.mono ?_
  rintro e w1 ⟨rfl, hb⟩
  have HB := Aside0.mk hb
  clear p1 hb
  by_cases hlen : 60 < l.length
  · have h1 : decide ((60 : Int) < (l.length : Int)) = true := decide_eq_true (by omega)
    go_wp2
    go_ret
    exact ⟨rfl, HB.out⟩
  have h1 : decide ((60 : Int) < (l.length : Int)) = false := decide_eq_false (by omega)
  have hl : l.length ≤ 60 := by omega
  clear hlen
  have s0 := (((Sit.refl w).behind HB.out).fresh).fresh
  rw [size_alloc] at s0
  have S0 := Aside0.mk s0.swap
  clear s0
  go_wp2
  go_loopw [8] (fun iv wr => ∃ k : Nat, k ≤ l.length ∧ iv = .int .i64 k ∧ Aside0 (Sit w wr [.que w1.heap.size (srt (l.take k)), .que (w1.heap.size + 1) (srt (l.reverse.take k))])) (fun iv _ => l.length - (intOf iv).toNat)
  case atStart => exact ⟨0, by omega, rfl, S0⟩
  case round =>
    clear S0
    obtain ⟨k, hk, rfl, HS⟩ := hrel
    by_cases hlt : k < l.length
    · obtain ⟨j, hj⟩ : ∃ j, j + k + 1 = l.length := ⟨l.length - 1 - k, by omega⟩
      obtain ⟨ad, rfl, c0, c1⟩ := at_due (Kd.C_below HR.out HS.out.below) k hlt
      have hss := srt_take hlt
      have hrr := srt_take (l := l.reverse) (k := k) (by simpa using hlt)
      rw [at_rev hj] at hrr
      obtain ⟨x, hx⟩ : ∃ x, x = at' l k := ⟨_, rfl⟩
      obtain ⟨y, hy⟩ : ∃ y, y = at' l j := ⟨_, rfl⟩
      rw [← hx] at c0 c1 hss
      rw [← hy] at hrr
      have hput := sit_put x HS.out (by rw [srt_length]; simp; omega)
      have HSS := Aside0.mk hss
      have HRR := Aside0.mk hrr
      have HX := Aside0.mk hx
      have HY := Aside0.mk hy
      have HJ := Aside0.mk hj
      clear hss hx hrr hy hj
      go_wp2_with fail
      go_at_call 9
      refine hput.mono ?_
      rintro e w2 ⟨rfl, hs⟩
      obtain ⟨ad2, e2, d0, d1⟩ := at_due (Kd.C_below HR.out hs.below) j (by have := HJ.out; omega)
      cases e2
      rw [← HY.out] at d0 d1
      have hput2 := sit_put y hs.swap (by rw [srt_length]; simp; omega)
      clear hput hs c0 c1
      have ej : (l.length : Int) - 1 - (k : Int) = (j : Int) := by have := HJ.out; omega
      have ejl : (j : Int) < (l.length : Int) := by have := HJ.out; omega
      go_wp2_with fail
      go_at_call 9
      refine hput2.mono ?_
      rintro e w3 ⟨rfl, hs⟩
      have HS3 := Aside0.mk hs.swap
      clear hput2 hs d0 d1 ej ejl
      go_wp2
      exact ⟨⟨k + 1, by omega, by go_num, ⟨by rw [HSS.out, HRR.out]; exact HS3.out⟩⟩, by simp [intOf]; omega⟩
    · obtain rfl : k = l.length := by omega
      rw [List.take_length, List.take_of_length_le (by simp), srt_rev] at HS
      obtain ⟨wo, hwo⟩ : ∃ wo : World, wo = wr := ⟨_, rfl⟩
      rw [← hwo] at HS ⊢
      obtain ⟨s, hs⟩ : ∃ s, s = srt l := ⟨_, rfl⟩
      rw [← hs] at HS
      have hsl : s.length = l.length := by rw [hs, srt_length]
      have hsp : s.Perm l := by rw [hs]; exact (srt_sorted l).2
      have hdr := sit_drop id HS.out (by omega)
      have HSL := Aside0.mk hsl
      have HSP := Aside0.mk hsp
      obtain ⟨z, hz⟩ : ∃ z, z = s.filter (fun d => !hit id d) := ⟨_, rfl⟩
      rw [← hz] at hdr
      have HZ := Aside0.mk hz
      have hzl : z.length ≤ s.length := by rw [hz]; exact List.length_filter_le _ _
      clear hwo hk hlt hs hsl hsp hz HS
      go_wp2_with fail
      go_at_call 15
      refine hdr.mono ?_
      rintro e w2 ⟨rfl, hs⟩
      have hdr2 := sit_drop id hs.swap (by have := HSL.out; omega)
      rw [← HZ.out] at hdr2
      clear hdr hs
      go_wp2_with fail
      go_at_call 15
      refine hdr2.mono ?_
      rintro e w3 ⟨rfl, hs⟩
      have HS := Aside0.mk hs.swap
      clear hdr2 hs
      obtain ⟨n, hn⟩ : ∃ n : Int, n = (s.length : Int) - (z.length : Int) := ⟨_, rfl⟩
      rw [← hn]
      clear hn
      go_wp2
      go_loopw [11, 12] (fun lv iv wr => ∃ (k : Nat) (b : Int), k ≤ l.length ∧ iv = .int .i64 k ∧ lv = .int .i64 b ∧ Aside0 (∀ j, j < k → (at' l j).f0 ≤ b) ∧ Aside0 (Sit w wr [.que w1.heap.size z, .que (w1.heap.size + 1) z])) (fun _ iv _ => l.length - (intOf iv).toNat)
      case atStart => exact ⟨0, 0, by omega, rfl, rfl, ⟨fun j hj => absurd hj (by omega)⟩, HS⟩
      case round =>
        clear HS
        obtain ⟨k, b, hk, rfl, rfl, HM, HS⟩ := hrel
        by_cases hlt : k < l.length
        · obtain ⟨ad, rfl, c0, c1⟩ := at_due (Kd.C_below HR.out HS.out.below) k hlt
          have hstep : ∀ b', b ≤ b' ∨ k = 0 → (at' l k).f0 ≤ b' → ∀ j, j < k + 1 → (at' l j).f0 ≤ b' := by
            intro b' h1 h2 j hj
            rcases Nat.lt_or_ge j k with h | h
            · have := HM.out j h
              rcases h1 with h1 | h1
              · omega
              · omega
            · obtain rfl : j = k := by omega
              exact h2
          have HST := Aside0.mk hstep
          clear hstep
          obtain ⟨x, hx⟩ : ∃ x, x = at' l k := ⟨_, rfl⟩
          rw [← hx] at c0 c1 HST
          clear hx
          by_cases hk0 : k = 0
          · subst hk0
            simp only [Nat.zero_mul, Addr.add_zero'] at c0 c1
            go_wp2
            exact ⟨⟨1, x.f0, by omega, rfl, rfl, ⟨HST.out x.f0 (.inr rfl) (Int.le_refl _)⟩, HS⟩, by simp [intOf]; omega⟩
          · have g0 : ((k : Int) == 0) = false := beq_eq_false_iff_ne.2 (by omega)
            by_cases hb : b < x.f0
            · have g1 : decide (b < x.f0) = true := decide_eq_true hb
              go_wp2
              exact ⟨⟨k + 1, x.f0, by omega, by go_num, rfl, ⟨HST.out x.f0 (.inl (by omega)) (Int.le_refl _)⟩, HS⟩, by simp [intOf]; omega⟩
            · have g1 : decide (b < x.f0) = false := decide_eq_false hb
              go_wp2
              exact ⟨⟨k + 1, b, by omega, by go_num, rfl, ⟨HST.out b (.inl (Int.le_refl _)) (by omega)⟩, HS⟩, by simp [intOf]; omega⟩
        · obtain rfl : k = l.length := by omega
          obtain ⟨wo2, hwo⟩ : ∃ wo2 : World, wo2 = wr := ⟨_, rfl⟩
          rw [← hwo] at HS ⊢
          have hall : ∀ x ∈ z, x.f0 ≤ b ∧ hit id x = false := by
            intro x hx
            rw [HZ.out] at hx
            obtain ⟨h1, h2⟩ := List.mem_filter.1 hx
            obtain ⟨j, hj, rfl⟩ := List.getElem_of_mem (HSP.out.mem_iff.1 h1)
            have := HM.out j hj
            rw [at_get hj] at this
            exact ⟨this, by simpa using h2⟩
          have HALL := Aside0.mk hall
          have hzl2 : z.length ≤ l.length := by have := HSL.out; omega
          clear hwo hk hlt hall HM
          go_wp2
          go_loopw [13] (fun iv wr => ∃ k : Nat, k ≤ l.length + 1 ∧ iv = .int .i64 k ∧ Aside0 (Sit w wr [.que w1.heap.size (z.drop k), .que (w1.heap.size + 1) (z.drop k)])) (fun iv _ => l.length + 1 - (intOf iv).toNat)
          case atStart => exact ⟨0, by omega, rfl, HS⟩
          case round =>
            clear HS
            obtain ⟨k, hk, rfl, HS⟩ := hrel
            by_cases hlt : k ≤ l.length
            · have hsub : ∀ x ∈ z.drop k, x.f0 ≤ b ∧ hit id x = false := fun x hx => HALL.out x (List.mem_of_mem_drop hx)
              have hg := got_all (now := b) (s := z.drop k) (fun x hx => (hsub x hx).1)
              have hid := got_hit (id := id) (now := b) (s := z.drop k) (fun x hx => (hsub x hx).2)
              have hd : (z.drop k).drop 1 = z.drop (k + 1) := by rw [List.drop_drop]
              have htk := sit_take b HS.out (by simp; omega)
              rw [hg.2, hd] at htk
              have HG := Aside0.mk (And.intro hg.2 hd)
              have HID := Aside0.mk hid
              clear hsub hg hd hid
              go_wp2_with fail
              go_at_call 10
              refine htk.mono ?_
              rintro e w4 ⟨rfl, hs⟩
              have s4 := (hs.alloc #[.int .i64 (gotV b (z.drop k)).f0, .int .i64 (gotV b (z.drop k)).f1] 30).rot
              have htk2 := sit_take b s4 (by simp; omega)
              rw [HG.out.1, HG.out.2] at htk2
              clear hs htk s4 HS
              go_wp2_with fail
              go_at_call 10
              refine htk2.mono ?_
              rintro e w5 ⟨rfl, hs⟩
              obtain ⟨d0, d1, _, _, hd5⟩ := hs.swap.blk2
              have HS5 := Aside0.mk (hs.swap.tail.skip (.cells #[.int .i64 (gotV b (z.drop k)).f0, .int .i64 (gotV b (z.drop k)).f1] 30))
              clear hs htk2
              generalize gotV b (z.drop k) = v at d0 d1 HS5 HID ⊢
              generalize due b (z.drop k) = t at HID ⊢
              cases t with
              | false =>
                go_wp2
                exact ⟨⟨k + 1, by omega, by go_num, ⟨HS5.out.swap⟩⟩, by simp [intOf]; omega⟩
              | true =>
                have hid := HID.out rfl
                go_wp2
                exact ⟨⟨k + 1, by omega, by go_num, ⟨HS5.out.swap⟩⟩, by simp [intOf]; omega⟩
            · have hn0 : z.drop k = [] := List.drop_of_length_le (by omega)
              rw [hn0] at HS
              have hln := sit_len HS.out
              have hkl : decide (k ≤ l.length) = false := decide_eq_false hlt
              clear hn0
              go_wp2_with (go_at_call 11; refine hln.mono ?_; rintro e w3 ⟨rfl, rfl⟩)
              go_ret
              exact ⟨rfl, HS.out.below⟩
theorem dueOrder_calls (A0 : Option Addr) (c0 : Nat) (l0 : List D) (a1 : Int) (w : World) (hm : l0.length ≤ maxLen) (hw : ∀ z ∈ l0, qT30 z) (h1 : (Lit.int .i64 a1).wf = true) (hC : Kd.C k30 w A0 l0.length l0) (hc : l0.length ≤ c0) :
    Calls Try.prog 6 #[.slice A0 l0.length c0, .int .i64 a1] w fun e w' => e = .returned (.bool true) ∧ Below w.heap.size w w' := dueOrder_any A0 c0 l0 a1 w hC
end Go.Proofs.Ytghgjjpddemjkaa.Due
