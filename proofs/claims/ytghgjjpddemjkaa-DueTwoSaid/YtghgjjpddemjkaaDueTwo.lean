/- What is taken of two queues, always the lesser of both, is what is taken of one of all (DueTwoSaid): the walk. No conditions. -/
import Derived.Test.YtghgjjpddemjkaaDueRises
import Derived.Test.YtghgjjpddemjkaaDueGot
namespace Go.Proofs.Ytghgjjpddemjkaa.Due
open Go.RowKit Go.Proofs.Ytghgjjpddemjkaa.Pa Go.Proofs.YtghgjjpddemjkaaW.PrintWords Go.Proofs.YtghgjjpddemjkaaW.PrintLast Go.Proofs.YtghgjjpddemjkaaW.PrintMore
set_option linter.unusedVariables false

/-- Which one of two queues the next one is taken of. -/
def ofQ (P Q : List D) : Bool := !ne P || (ne Q && lt (hd Q) (hd P))
theorem hd_eq {P S : List D} {m : D} (hS : Sorted S) (hp : S.Perm (m :: P)) (hm : ∀ x ∈ P, lt x m = false) : ∃ S', S = m :: S' ∧ S'.Perm P ∧ Sorted S' := by
  cases S with
  | nil => exact absurd hp.length_eq (by simp)
  | cons a r =>
    obtain ⟨h1, h2⟩ := List.pairwise_cons.1 hS
    have e : a = m := by
      have ha : a ∈ m :: P := hp.mem_iff.1 (by simp)
      have hb : m ∈ a :: r := hp.mem_iff.2 (by simp)
      rcases List.mem_cons.1 ha with e | ha
      · exact e
      · rcases List.mem_cons.1 hb with e | hb
        · exact e.symm
        · exact le_antisymm (h1 m hb) (hm a ha)
    subst e
    exact ⟨r, rfl, hp.cons_inv, h2⟩
theorem sorted_tail {m : D} {P : List D} (h : Sorted (m :: P)) : (∀ x ∈ P, lt x m = false) ∧ Sorted P := List.pairwise_cons.1 h
theorem got_none (now : Int) : gotV now [] = ⟨0, 0⟩ ∧ gotL now [] = [] ∧ due now [] = false := ⟨rfl, rfl, rfl⟩
/-- What is taken of the one is taken of all. -/
theorem two_step (now : Int) {P Q S : List D} (hP : Sorted P) (hQ : Sorted Q) (hS : Sorted S) (hp : S.Perm (P ++ Q)) :
    (ofQ P Q = true → gotV now Q = gotV now S ∧ due now Q = due now S ∧ (gotL now S).Perm (P ++ gotL now Q) ∧ Sorted (gotL now Q) ∧ Sorted (gotL now S)) ∧
    (ofQ P Q = false → gotV now P = gotV now S ∧ due now P = due now S ∧ (gotL now S).Perm (gotL now P ++ Q) ∧ Sorted (gotL now P) ∧ Sorted (gotL now S)) := by
  refine ⟨fun h => ?_, fun h => ?_⟩
  · cases Q with
    | nil =>
      have : P = [] := by
        cases P with
        | nil => rfl
        | cons x P => simp [ofQ, ne] at h
      subst this
      have : S = [] := List.perm_nil.1 (by simpa using hp)
      subst this
      exact ⟨rfl, rfl, List.Perm.refl _, hQ, hS⟩
    | cons y Q =>
      have hm : ∀ x ∈ P, lt x y = false := by
        intro x hx
        cases P with
        | nil => cases hx
        | cons z P =>
          have hl : lt y z = true := by simpa [ofQ, ne, hd] using h
          rcases List.mem_cons.1 hx with rfl | hx
          · exact lt_asymm hl
          · exact le_trans (lt_asymm hl) ((sorted_tail hP).1 x hx)
      obtain ⟨S', rfl, hp', hs'⟩ := hd_eq (m := y) hS (hp.trans List.perm_middle) (fun x hx => by
        rcases List.mem_append.1 hx with hx | hx
        · exact hm x hx
        · exact (sorted_tail hQ).1 x hx)
      have e1 : due now (y :: S') = due now (y :: Q) := rfl
      unfold gotV gotL
      rw [e1]
      cases due now (y :: Q) with
      | true => exact ⟨rfl, rfl, hp', (sorted_tail hQ).2, hs'⟩
      | false => exact ⟨rfl, rfl, hp, hQ, hS⟩
  · cases P with
    | nil => simp [ofQ, ne] at h
    | cons x P =>
      have hm : ∀ y ∈ Q, lt y x = false := by
        intro y hy
        cases Q with
        | nil => cases hy
        | cons z Q =>
          have hl : lt z x = false := by simpa [ofQ, ne, hd] using h
          rcases List.mem_cons.1 hy with rfl | hy
          · exact hl
          · exact le_trans hl ((sorted_tail hQ).1 y hy)
      obtain ⟨S', rfl, hp', hs'⟩ := hd_eq (m := x) hS hp (fun y hy => by
        rcases List.mem_append.1 hy with hy | hy
        · exact (sorted_tail hP).1 y hy
        · exact hm y hy)
      have e1 : due now (x :: S') = due now (x :: P) := rfl
      unfold gotV gotL
      rw [e1]
      cases due now (x :: P) with
      | true => exact ⟨rfl, rfl, hp', (sorted_tail hP).2, hs'⟩
      | false => exact ⟨rfl, rfl, hp, hP, hS⟩

set_option maxRecDepth 100000 in
set_option maxHeartbeats 16000000 in
theorem dueTwo_any (A : Option Addr) (c : Nat) (l : List D) (A1 : Option Addr) (c1 : Nat) (l1 : List D) (now : Int) (w : World) (hr : Kd.C k30 w A l.length l) (hr1 : Kd.C k30 w A1 l1.length l1) :
    Calls Try.prog 4 #[.slice A l.length c, .slice A1 l1.length c1, .int .i64 now] w fun e w' => e = .returned (.bool true) ∧ Below w.heap.size w w' := by
  have HR := Aside0.mk hr
  have HR1 := Aside0.mk hr1
  have hmax := Kd.C_max hr
  have hmax1 := Kd.C_max hr1
  clear hr hr1
  have p1 := awake_any w
  go_enter Try.func4, Try.ntmps4
  go_wp2_with fail
  go_at_call 8
  refine p1.mono ?_
  rintro e w1 ⟨rfl, hb⟩
  have HB := Aside0.mk hb
  clear p1 hb
  by_cases hlen : 40 < l.length
  · have h1 : decide ((40 : Int) < (l.length : Int)) = true := decide_eq_true (by omega)
    go_wp2
    go_ret
    exact ⟨rfl, HB.out⟩
  have h1 : decide ((40 : Int) < (l.length : Int)) = false := decide_eq_false (by omega)
  by_cases hlen1 : 40 < l1.length
  · have h2 : decide ((40 : Int) < (l1.length : Int)) = true := decide_eq_true (by omega)
    go_wp2
    go_ret
    exact ⟨rfl, HB.out⟩
  have h2 : decide ((40 : Int) < (l1.length : Int)) = false := decide_eq_false (by omega)
  have hl : l.length ≤ 40 := by omega
  have hl1 : l1.length ≤ 40 := by omega
  clear hlen hlen1
  have s0 := ((((Sit.refl w).behind HB.out).fresh).fresh).fresh
  rw [size_alloc, size_alloc] at s0
  have S0 := Aside0.mk s0.rot.perm3
  clear s0
  go_wp2
  go_loopw [11] (fun iv wr => ∃ k : Nat, k ≤ l.length ∧ iv = .int .i64 k ∧ Aside0 (Sit w wr [.que w1.heap.size (srt (l.take k)), .que (w1.heap.size + 1 + 1) (srt (l.take k)), .que (w1.heap.size + 1) []])) (fun iv _ => l.length - (intOf iv).toNat)
  case atStart => exact ⟨0, by omega, rfl, S0⟩
  case round =>
    clear S0
    obtain ⟨k, hk, rfl, HS⟩ := hrel
    by_cases hlt : k < l.length
    · obtain ⟨ad, rfl, c0, c1⟩ := at_due (Kd.C_below HR.out HS.out.below) k hlt
      have hss := srt_take hlt
      obtain ⟨x, hx⟩ : ∃ x, x = at' l k := ⟨_, rfl⟩
      rw [← hx] at c0 c1 hss
      have hput := sit_put x HS.out (by rw [srt_length]; simp; omega)
      have HSS := Aside0.mk hss
      have HX := Aside0.mk hx
      clear hss hx
      go_wp2_with fail
      go_at_call 9
      refine hput.mono ?_
      rintro e w2 ⟨rfl, hs⟩
      obtain ⟨ad2, e2, d0, d1⟩ := at_due (Kd.C_below HR.out hs.below) k hlt
      cases e2
      rw [← HX.out] at d0 d1
      have hput2 := sit_put x hs.swap (by rw [srt_length]; simp; omega)
      clear hput hs c0 c1
      go_wp2_with fail
      go_at_call 9
      refine hput2.mono ?_
      rintro e w3 ⟨rfl, hs⟩
      have HS3 := Aside0.mk hs.swap
      clear hput2 hs d0 d1
      go_wp2
      exact ⟨⟨k + 1, by omega, by go_num, ⟨by rw [HSS.out]; exact HS3.out⟩⟩, by simp [intOf]; omega⟩
    · obtain rfl : k = l.length := by omega
      rw [List.take_length] at HS
      obtain ⟨wo, hwo⟩ : ∃ wo : World, wo = wr := ⟨_, rfl⟩
      rw [← hwo] at HS ⊢
      clear hwo hk hlt
      go_wp2
      go_loopw [12] (fun iv wr => ∃ k : Nat, k ≤ l1.length ∧ iv = .int .i64 k ∧ Aside0 (∃ S, Sorted S ∧ S.Perm (l ++ l1.take k) ∧ Sit w wr [.que w1.heap.size (srt l), .que (w1.heap.size + 1 + 1) S, .que (w1.heap.size + 1) (srt (l1.take k))])) (fun iv _ => l1.length - (intOf iv).toNat)
      case atStart => exact ⟨0, by omega, rfl, ⟨srt l, (srt_sorted l).1, by simpa using (srt_sorted l).2, HS.out⟩⟩
      case round =>
        clear HS
        obtain ⟨k, hk, rfl, HS⟩ := hrel
        by_cases hlt : k < l1.length
        · obtain ⟨S, hS1, hS2, hS3⟩ := HS.out
          obtain ⟨ad, rfl, c0, c1⟩ := at_due (Kd.C_below HR1.out hS3.below) k hlt
          have hss := srt_take hlt
          have htk := take_snoc hlt
          obtain ⟨x, hx⟩ : ∃ x, x = at' l1 k := ⟨_, rfl⟩
          rw [← hx] at c0 c1 hss htk
          have hput := sit_put x hS3.rot (by rw [srt_length]; simp; omega)
          have hsl : S.length ≤ 80 := by have := hS2.length_eq; simp at this; omega
          have HSS := Aside0.mk hss
          have HTK := Aside0.mk htk
          have HX := Aside0.mk hx
          have HS2 := Aside0.mk (And.intro hS1 hS2)
          clear hss hx htk hS1 hS2 hS3 HS
          go_wp2_with fail
          go_at_call 9
          refine hput.mono ?_
          rintro e w2 ⟨rfl, hs⟩
          obtain ⟨ad2, e2, d0, d1⟩ := at_due (Kd.C_below HR1.out hs.below) k hlt
          cases e2
          rw [← HX.out] at d0 d1
          have hput2 := sit_put x hs.rot (by omega)
          clear hput hs c0 c1
          go_wp2_with fail
          go_at_call 9
          refine hput2.mono ?_
          rintro e w3 ⟨rfl, hs⟩
          have HS3 := Aside0.mk hs.rot
          clear hput2 hs d0 d1
          go_wp2
          refine ⟨⟨k + 1, by omega, by go_num, ⟨ins x S, ins_sorted x S HS2.out.1, ?_, by rw [HSS.out]; exact HS3.out⟩⟩, by simp [intOf]; omega⟩
          rw [HTK.out, ← List.append_assoc]
          exact (ins_perm x S).trans ((HS2.out.2.cons x).trans (List.perm_append_singleton x _).symm)
        · obtain rfl : k = l1.length := by omega
          rw [List.take_length] at HS
          obtain ⟨wo2, hwo⟩ : ∃ wo2 : World, wo2 = wr := ⟨_, rfl⟩
          rw [← hwo] at HS ⊢
          clear hwo hk hlt
          go_wp2
          go_loopw [13] (fun iv wr => ∃ k : Nat, k ≤ l.length + l1.length + 1 ∧ iv = .int .i64 k ∧ Aside0 (∃ P Q S, P.length ≤ 40 ∧ Q.length ≤ 40 ∧ Sorted P ∧ Sorted Q ∧ Sorted S ∧ S.Perm (P ++ Q) ∧ Sit w wr [.que w1.heap.size P, .que (w1.heap.size + 1 + 1) S, .que (w1.heap.size + 1) Q])) (fun iv _ => l.length + l1.length + 1 - (intOf iv).toNat)
          case atStart =>
            obtain ⟨S, hS1, hS2, hS3⟩ := HS.out
            exact ⟨0, by omega, rfl, ⟨srt l, srt l1, S, by rw [srt_length]; exact hl, by rw [srt_length]; exact hl1, (srt_sorted l).1, (srt_sorted l1).1, hS1, hS2.trans (((srt_sorted l).2.symm).append ((srt_sorted l1).2.symm)), hS3⟩⟩
          case round =>
            clear HS
            obtain ⟨k, hk, rfl, HS⟩ := hrel
            obtain ⟨P, Q, S, hP, hQ, sP, sQ, sS, hp, hs⟩ := HS.out
            have hSl : S.length ≤ 80 := by have := hp.length_eq; simp at this; omega
            by_cases hlt : k ≤ l.length + l1.length
            · have hk1 : decide ((k : Int) ≤ (l.length : Int) + (l1.length : Int)) = true := decide_eq_true (by omega)
              obtain ⟨stepQ, stepP⟩ := two_step now sP sQ sS hp
              have hf := sit_first hs
              have HQ := Aside0.mk stepQ
              have HP := Aside0.mk stepP
              have HSO := Aside0.mk (And.intro sP sQ)
              clear hs HS stepQ stepP sP sQ sS hp
              go_wp2_with fail
              go_at_call 12
              refine hf.mono ?_
              rintro e w2 ⟨rfl, hs⟩
              have s2 := (hs.alloc #[.int .i64 (hd P).f0, .int .i64 (hd P).f1] 30).rot4
              have hf2 := sit_first s2
              clear hs hf s2
              go_wp2_with fail
              go_at_call 12
              refine hf2.mono ?_
              rintro e w3 ⟨rfl, hs⟩
              obtain ⟨c0, c1, _, _, hc⟩ := hs.swap.blk2
              have HS := Aside0.mk (hs.swap.tail.skip (.cells #[.int .i64 (hd Q).f0, .int .i64 (hd Q).f1] 30))
              clear hs hf2
              have hof : ofQ P Q = (!ne P || (ne Q && lt (hd Q) (hd P))) := rfl
              have HOF := Aside0.mk hof
              clear hof
              obtain ⟨x, hx⟩ : ∃ x, x = hd P := ⟨_, rfl⟩
              obtain ⟨y, hy⟩ : ∃ y, y = hd Q := ⟨_, rfl⟩
              rw [← hx, ← hy] at HOF
              rw [← hx] at c0 c1
              rw [← hy] at HS ⊢
              generalize ne P = np at HOF ⊢
              generalize ne Q = nq at HOF ⊢
              generalize hd P = x' at hx ⊢
              subst hx
              clear hy

              cases np with
              | false =>
                have hsel : ofQ P Q = true := HOF.out
                clear HOF
                obtain ⟨e1, e2, hperm, sM, sS'⟩ := HQ.out hsel
                have htk := sit_take now HS.out (by omega)
                have HE := Aside0.mk (And.intro e1 e2)
                have HPM := Aside0.mk (And.intro hperm (And.intro sM sS'))
                clear e1 e2 hperm sM sS' hsel
                go_wp2_with fail
                go_at_call 10
                refine htk.mono ?_
                rintro e w4 ⟨rfl, hs⟩
                have s4 := (hs.alloc #[.int .i64 (gotV now Q).f0, .int .i64 (gotV now Q).f1] 30).rot4
                have htk2 := sit_take now s4 (by omega)
                rw [← HE.out.1, ← HE.out.2] at htk2
                clear hs htk s4
                go_wp2_with fail
                go_at_call 10
                refine htk2.mono ?_
                rintro e w5 ⟨rfl, hs⟩
                obtain ⟨d0, d1, _, _, hd5⟩ := hs.swap.blk2
                have HS5 := Aside0.mk (hs.swap.tail.skip (.cells #[.int .i64 (gotV now Q).f0, .int .i64 (gotV now Q).f1] 30))
                clear hs htk2 c0 c1 hc HS
                generalize gotV now Q = v at d0 d1 HS5 ⊢
                generalize due now Q = b at ⊢
                cases b <;> (
                  go_wp2
                  exact ⟨⟨k + 1, by omega, by go_num, ⟨P, gotL now Q, gotL now S, hP, Nat.le_trans (gotL_length now Q) hQ, HSO.out.1, HPM.out.2.1, HPM.out.2.2, HPM.out.1, HS5.out.rot⟩⟩, by simp [intOf]; omega⟩)
              | true =>
                cases nq with
                | false =>
                  have hsel : ofQ P Q = false := HOF.out
                  clear HOF
                  obtain ⟨e1, e2, hperm, sM, sS'⟩ := HP.out hsel
                  have htk := sit_take now HS.out.swap (by omega)
                  have HE := Aside0.mk (And.intro e1 e2)
                  have HPM := Aside0.mk (And.intro hperm (And.intro sM sS'))
                  clear e1 e2 hperm sM sS' hsel
                  go_wp2_with fail
                  go_at_call 10
                  refine htk.mono ?_
                  rintro e w4 ⟨rfl, hs⟩
                  have s4 := (hs.alloc #[.int .i64 (gotV now P).f0, .int .i64 (gotV now P).f1] 30).rot4
                  have htk2 := sit_take now s4 (by omega)
                  rw [← HE.out.1, ← HE.out.2] at htk2
                  clear hs htk s4
                  go_wp2_with fail
                  go_at_call 10
                  refine htk2.mono ?_
                  rintro e w5 ⟨rfl, hs⟩
                  obtain ⟨d0, d1, _, _, hd5⟩ := hs.swap.blk2
                  have HS5 := Aside0.mk (hs.swap.tail.skip (.cells #[.int .i64 (gotV now P).f0, .int .i64 (gotV now P).f1] 30))
                  clear hs htk2 c0 c1 hc HS
                  generalize gotV now P = v at d0 d1 HS5 ⊢
                  generalize due now P = b at ⊢
                  cases b <;> (
                    go_wp2
                    exact ⟨⟨k + 1, by omega, by go_num, ⟨gotL now P, Q, gotL now S, Nat.le_trans (gotL_length now P) hP, hQ, HPM.out.2.1, HSO.out.2, HPM.out.2.2, HPM.out.1, HS5.out.swap⟩⟩, by simp [intOf]; omega⟩)
                | true =>
                  have hsel : ofQ P Q = lt y x := HOF.out
                  clear HOF
                  by_cases g1 : y.f0 < x.f0
                  · rw [(lt_iff y x).2 (.inl g1)] at hsel
                    have g1' : decide (y.f0 < x.f0) = true := decide_eq_true g1
                    obtain ⟨e1, e2, hperm, sM, sS'⟩ := HQ.out hsel
                    have htk := sit_take now HS.out (by omega)
                    have HE := Aside0.mk (And.intro e1 e2)
                    have HPM := Aside0.mk (And.intro hperm (And.intro sM sS'))
                    clear e1 e2 hperm sM sS' hsel
                    go_wp2_with fail
                    go_at_call 10
                    refine htk.mono ?_
                    rintro e w4 ⟨rfl, hs⟩
                    have s4 := (hs.alloc #[.int .i64 (gotV now Q).f0, .int .i64 (gotV now Q).f1] 30).rot4
                    have htk2 := sit_take now s4 (by omega)
                    rw [← HE.out.1, ← HE.out.2] at htk2
                    clear hs htk s4
                    go_wp2_with fail
                    go_at_call 10
                    refine htk2.mono ?_
                    rintro e w5 ⟨rfl, hs⟩
                    obtain ⟨d0, d1, _, _, hd5⟩ := hs.swap.blk2
                    have HS5 := Aside0.mk (hs.swap.tail.skip (.cells #[.int .i64 (gotV now Q).f0, .int .i64 (gotV now Q).f1] 30))
                    clear hs htk2 c0 c1 hc HS
                    generalize gotV now Q = v at d0 d1 HS5 ⊢
                    generalize due now Q = b at ⊢
                    cases b <;> (
                      go_wp2
                      exact ⟨⟨k + 1, by omega, by go_num, ⟨P, gotL now Q, gotL now S, hP, Nat.le_trans (gotL_length now Q) hQ, HSO.out.1, HPM.out.2.1, HPM.out.2.2, HPM.out.1, HS5.out.rot⟩⟩, by simp [intOf]; omega⟩)
                  · have g1' : decide (y.f0 < x.f0) = false := decide_eq_false g1
                    by_cases g2 : y.f0 = x.f0
                    · have g2' : (y.f0 == x.f0) = true := beq_iff_eq.2 g2
                      by_cases g3 : y.f1 < x.f1
                      · have g3' : decide (y.f1 < x.f1) = true := decide_eq_true g3
                        rw [(lt_iff y x).2 (.inr ⟨g2, g3⟩)] at hsel
                        clear g1 g2 g3
                        obtain ⟨e1, e2, hperm, sM, sS'⟩ := HQ.out hsel
                        have htk := sit_take now HS.out (by omega)
                        have HE := Aside0.mk (And.intro e1 e2)
                        have HPM := Aside0.mk (And.intro hperm (And.intro sM sS'))
                        clear e1 e2 hperm sM sS' hsel
                        go_wp2_with fail
                        go_at_call 10
                        refine htk.mono ?_
                        rintro e w4 ⟨rfl, hs⟩
                        have s4 := (hs.alloc #[.int .i64 (gotV now Q).f0, .int .i64 (gotV now Q).f1] 30).rot4
                        have htk2 := sit_take now s4 (by omega)
                        rw [← HE.out.1, ← HE.out.2] at htk2
                        clear hs htk s4
                        go_wp2_with fail
                        go_at_call 10
                        refine htk2.mono ?_
                        rintro e w5 ⟨rfl, hs⟩
                        obtain ⟨d0, d1, _, _, hd5⟩ := hs.swap.blk2
                        have HS5 := Aside0.mk (hs.swap.tail.skip (.cells #[.int .i64 (gotV now Q).f0, .int .i64 (gotV now Q).f1] 30))
                        clear hs htk2 c0 c1 hc HS
                        generalize gotV now Q = v at d0 d1 HS5 ⊢
                        generalize due now Q = b at ⊢
                        cases b <;> (
                          go_wp2
                          exact ⟨⟨k + 1, by omega, by go_num, ⟨P, gotL now Q, gotL now S, hP, Nat.le_trans (gotL_length now Q) hQ, HSO.out.1, HPM.out.2.1, HPM.out.2.2, HPM.out.1, HS5.out.rot⟩⟩, by simp [intOf]; omega⟩)
                      · have g3' : decide (y.f1 < x.f1) = false := decide_eq_false g3
                        rw [(lt_false y x).2 (by omega)] at hsel
                        clear g1 g2 g3
                        obtain ⟨e1, e2, hperm, sM, sS'⟩ := HP.out hsel
                        have htk := sit_take now HS.out.swap (by omega)
                        have HE := Aside0.mk (And.intro e1 e2)
                        have HPM := Aside0.mk (And.intro hperm (And.intro sM sS'))
                        clear e1 e2 hperm sM sS' hsel
                        go_wp2_with fail
                        go_at_call 10
                        refine htk.mono ?_
                        rintro e w4 ⟨rfl, hs⟩
                        have s4 := (hs.alloc #[.int .i64 (gotV now P).f0, .int .i64 (gotV now P).f1] 30).rot4
                        have htk2 := sit_take now s4 (by omega)
                        rw [← HE.out.1, ← HE.out.2] at htk2
                        clear hs htk s4
                        go_wp2_with fail
                        go_at_call 10
                        refine htk2.mono ?_
                        rintro e w5 ⟨rfl, hs⟩
                        obtain ⟨d0, d1, _, _, hd5⟩ := hs.swap.blk2
                        have HS5 := Aside0.mk (hs.swap.tail.skip (.cells #[.int .i64 (gotV now P).f0, .int .i64 (gotV now P).f1] 30))
                        clear hs htk2 c0 c1 hc HS
                        generalize gotV now P = v at d0 d1 HS5 ⊢
                        generalize due now P = b at ⊢
                        cases b <;> (
                          go_wp2
                          exact ⟨⟨k + 1, by omega, by go_num, ⟨gotL now P, Q, gotL now S, Nat.le_trans (gotL_length now P) hP, hQ, HPM.out.2.1, HSO.out.2, HPM.out.2.2, HPM.out.1, HS5.out.swap⟩⟩, by simp [intOf]; omega⟩)
                    · have g2' : (y.f0 == x.f0) = false := beq_eq_false_iff_ne.2 g2
                      rw [(lt_false y x).2 (by omega)] at hsel
                      clear g1 g2
                      obtain ⟨e1, e2, hperm, sM, sS'⟩ := HP.out hsel
                      have htk := sit_take now HS.out.swap (by omega)
                      have HE := Aside0.mk (And.intro e1 e2)
                      have HPM := Aside0.mk (And.intro hperm (And.intro sM sS'))
                      clear e1 e2 hperm sM sS' hsel
                      go_wp2_with fail
                      go_at_call 10
                      refine htk.mono ?_
                      rintro e w4 ⟨rfl, hs⟩
                      have s4 := (hs.alloc #[.int .i64 (gotV now P).f0, .int .i64 (gotV now P).f1] 30).rot4
                      have htk2 := sit_take now s4 (by omega)
                      rw [← HE.out.1, ← HE.out.2] at htk2
                      clear hs htk s4
                      go_wp2_with fail
                      go_at_call 10
                      refine htk2.mono ?_
                      rintro e w5 ⟨rfl, hs⟩
                      obtain ⟨d0, d1, _, _, hd5⟩ := hs.swap.blk2
                      have HS5 := Aside0.mk (hs.swap.tail.skip (.cells #[.int .i64 (gotV now P).f0, .int .i64 (gotV now P).f1] 30))
                      clear hs htk2 c0 c1 hc HS
                      generalize gotV now P = v at d0 d1 HS5 ⊢
                      generalize due now P = b at ⊢
                      cases b <;> (
                        go_wp2
                        exact ⟨⟨k + 1, by omega, by go_num, ⟨gotL now P, Q, gotL now S, Nat.le_trans (gotL_length now P) hP, hQ, HPM.out.2.1, HSO.out.2, HPM.out.2.2, HPM.out.1, HS5.out.swap⟩⟩, by simp [intOf]; omega⟩)
            · have hk1 : decide ((k : Int) ≤ (l.length : Int) + (l1.length : Int)) = false := decide_eq_false (by omega)
              have l1' := sit_len hs
              have l2' := sit_len hs.rot
              have l3' := sit_len hs.swap
              have hlen := hp.length_eq
              rw [List.length_append] at hlen
              obtain ⟨a, ha⟩ : ∃ a, a = P.length := ⟨_, rfl⟩
              obtain ⟨b, hb⟩ : ∃ b, b = Q.length := ⟨_, rfl⟩
              obtain ⟨z, hz⟩ : ∃ z, z = S.length := ⟨_, rfl⟩
              rw [← ha] at l1' hlen hP
              rw [← hb] at l2' hlen hQ
              rw [← hz] at l3' hlen
              have HB2 := Aside0.mk hs.below
              have he : ((a : Int) + (b : Int) == (z : Int)) = true := beq_iff_eq.2 (by omega)
              clear hs HS ha hb hz hlen hp sP sQ sS
              go_wp2_with fail
              go_at_call 11
              refine l1'.mono ?_
              rintro e w2 ⟨rfl, rfl⟩
              go_wp2_with fail
              go_at_call 11
              refine l2'.mono ?_
              rintro e w2 ⟨rfl, rfl⟩
              go_wp2_with fail
              go_at_call 11
              refine l3'.mono ?_
              rintro e w2 ⟨rfl, rfl⟩
              go_wp2
              go_ret
              exact ⟨rfl, HB2.out⟩
theorem dueTwo_calls (A0 : Option Addr) (c0 : Nat) (l0 : List D) (A1 : Option Addr) (c1 : Nat) (l1 : List D) (a2 : Int) (w : World) (hm : l0.length ≤ maxLen) (hw : ∀ z ∈ l0, qT30 z) (hm1 : l1.length ≤ maxLen) (hw1 : ∀ z ∈ l1, qT30 z) (h1 : (Lit.int .i64 a2).wf = true) (hC : Kd.C k30 w A0 l0.length l0) (hc : l0.length ≤ c0) (hC1 : Kd.C k30 w A1 l1.length l1) (hc1 : l1.length ≤ c1) :
    Calls Try.prog 4 #[.slice A0 l0.length c0, .slice A1 l1.length c1, .int .i64 a2] w fun e w' => e = .returned (.bool true) ∧ Below w.heap.size w w' := dueTwo_any A0 c0 l0 A1 c1 l1 a2 w hC hC1
end Go.Proofs.Ytghgjjpddemjkaa.Due
