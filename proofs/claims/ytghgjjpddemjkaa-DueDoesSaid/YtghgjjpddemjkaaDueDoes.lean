/- Any calls answer, and leave there, what the document says (DueDoesSaid): the walk. No conditions. -/
import Derived.Test.YtghgjjpddemjkaaDueAwake
import Derived.Test.YtghgjjpddemjkaaDueRef
import Derived.Test.YtghgjjpddemjkaaDueRowSit
import Derived.Test.YtghgjjpddemjkaaPaq
namespace Go.Proofs.Ytghgjjpddemjkaa.Due
open Go.RowKit Go.Proofs.Ytghgjjpddemjkaa.Pa Go.Proofs.YtghgjjpddemjkaaW.PrintWords Go.Proofs.YtghgjjpddemjkaaW.PrintLast Go.Proofs.YtghgjjpddemjkaaW.PrintMore
set_option linter.unusedVariables false

theorem at_op {w : World} {A : Option Addr} {l : List S39} (h : Kd.C k39 w A l.length l) (k : Nat) (hk : k < l.length) : ∃ (ad : Addr) (x : S39), A = some ad ∧ w.cell? (ad.add (k * 3)) = some (.int .i64 x.f0) ∧ w.cell? ⟨(ad.add (k * 3)).block, (ad.add (k * 3)).off + 1, none⟩ = some (.int .i64 x.f1.f0) ∧ w.cell? ⟨(ad.add (k * 3)).block, (ad.add (k * 3)).off + 2, none⟩ = some (.int .i64 x.f1.f1) := by
  obtain ⟨ad, e, h1, h2, h3⟩ := at_T39 h (k : Int) (by omega) (by omega)
  rw [Int.toNat_natCast] at h1 h2 h3
  exact ⟨ad, _, e, h1, h2, h3⟩
theorem row_cells {W : World} {A : Option Addr} {n0 c : Nat} {R : List D} (h : Kd.R k30 30 W 0 (fun _ => True) (.slice A n0 c) R) (j : Nat) (hj : j < R.length) :
    ∃ g, A = some ⟨g, 0, none⟩ ∧ g < W.heap.size ∧ W.cell? ⟨g, j * 2, none⟩ = some (.int .i64 (at' R j).f0) ∧ W.cell? ⟨g, j * 2 + 1, none⟩ = some (.int .i64 (at' R j).f1) := by
  obtain ⟨g, cap, e, _, hg, _⟩ := Kd.R_form h (by omega)
  injection e with e1 e2 e3
  subst e1 e2 e3
  obtain ⟨ad, e, c0, c1⟩ := at_due (Kd.R_reads' h).2.2 j hj
  injection e with e
  subst e
  rw [add_plain] at c0 c1
  exact ⟨g, rfl, hg, c0, c1⟩
theorem sorted_tail0 {m : D} {P : List D} (h : Sorted (m :: P)) : Sorted P := (List.pairwise_cons.1 h).2
set_option maxRecDepth 100000 in
set_option maxHeartbeats 32000000 in
theorem dueDoes_any (A0 : Option Addr) (c0' : Nat) (l : List S39) (w : World) (hr : Kd.C k39 w A0 l.length l) : Calls Try.prog 5 #[.slice A0 l.length c0'] w fun e w' => e = .returned (.bool true) ∧ Below w.heap.size w w' := by
  have HR := Aside0.mk hr
  have hmax := Kd.C_max hr
  clear hr
  have p1 := awake_any w
  go_enter Try.func5, Try.ntmps5
  go_wp2_with fail
  go_at_call 8
  refine p1.mono ?_
  rintro e w1 ⟨rfl, hb⟩
  have HB := Aside0.mk hb
  clear p1 hb
  by_cases hlen : 100 < l.length
  · have h1 : decide ((100 : Int) < (l.length : Int)) = true := decide_eq_true (by omega)
    go_wp2
    go_ret
    exact ⟨rfl, HB.out⟩
  have h1 : decide ((100 : Int) < (l.length : Int)) = false := decide_eq_false (by omega)
  have hl : l.length ≤ 100 := by omega
  clear hlen
  have S0 := Aside0.mk (((Sit.refl w).behind HB.out).fresh.nilrow.swap)
  go_wp2
  go_loopw [5, 6] (fun rv iv wr => ∃ (k : Nat) (s r : List D) (A : Option Addr) (c : Nat), k ≤ l.length ∧ iv = .int .i64 k ∧ rv = .slice A r.length c ∧ s.length ≤ k ∧ Aside0 (Sorted s ∧ r.Perm s) ∧ Aside0 (Sit w wr [.que w1.heap.size s, .row (.slice A r.length c) r])) (fun _ iv _ => l.length - (intOf iv).toNat)
  case atStart => exact ⟨0, [], [], none, 0, by omega, rfl, rfl, by simp, ⟨⟨List.Pairwise.nil, List.Perm.refl _⟩⟩, S0⟩
  case round =>
    clear S0
    obtain ⟨k, s, r, A, c, hk, rfl, rfl, hsk, HSR, HS⟩ := hrel
    by_cases hlt : k < l.length
    · obtain ⟨ad, x, rfl, b0, b1, b2⟩ := at_op (Kd.C_below HR.out HS.out.below) k hlt
      have bl := World.block_lt_of_cell? _ _ b0
      have hrl : r.length ≤ 100 := by have := HSR.out.2.length_eq; omega
      have HX := Aside0.mk (HS.out.alloc #[.int .i64 x.f1.f0, .int .i64 x.f1.f1] 30)

      by_cases k0 : x.f0 = 0
      · have q0 : (x.f0 == 0) = true := beq_iff_eq.2 k0
        clear k0
        have hput := sit_put x.f1 HX.out.swap (by omega)
        clear HX HS
        go_wp2_with fail
        go_at_call 9
        refine hput.mono ?_
        rintro e w2 ⟨rfl, hs⟩
        obtain ⟨d0, d1, _, _, d4⟩ := hs.swap.blk2
        have HROW := Aside0.mk hs.swap.tail.swap
        clear hs hput
        go_wp2_with ((with_reducible refine gate_builtin (b := .append) (xs := #[.tmp 50, .tmp 52]) rfl ?_); at_builtin; refine Kd.R_append k30 (w0 := w) 0 rfl (.tmp 50) (.tmp 52) 22 30 (.agg #[.int .i64 0, .int .i64 0]) 16 rfl Try.underlying22 info30 rfl (by decide) (by decide) (.slice A r.length c) r x.f1 [.int .i64 x.f1.f0, .int .i64 x.f1.f1] (fun _ => True) (fun _ => False) rfl rfl ?aM ?aN (fun _ _ => trivial) ?aO ?aB (Nat.zero_le _) ?aL ?_; (case aM => exact k30_mkM _ _ _ _); (case aN => exact fun _ h => h.elim); (case aO => exact HROW.out.row); (case aB => exact HROW.out.below.mono (Nat.zero_le _)); (case aL => omega); intro v1 w3 ho hb hg hat; obtain ⟨R, hR⟩ : ∃ R, R = r ++ [x.f1] := ⟨_, rfl⟩; rw [← hR] at ho; obtain ⟨A1, c1, rfl⟩ := Kd.R_slice ho; have HT := Aside0.mk (HROW.out.appended ho hg hat).swap; have HRE := Aside0.mk hR; clear ho hb hg hat hR)
        have HP : Aside0 (Sorted (ins x.f1 s) ∧ R.Perm (ins x.f1 s)) := ⟨ins_sorted _ _ HSR.out.1, by rw [HRE.out]; exact ((HSR.out.2.append_right [x.f1]).trans (List.perm_append_singleton x.f1 s)).trans (ins_perm x.f1 s).symm⟩
        have hsi : (ins x.f1 s).length ≤ k + 1 := by rw [(ins_perm x.f1 s).length_eq]; simp; omega
        obtain ⟨S', hS'⟩ : ∃ S', S' = ins x.f1 s := ⟨_, rfl⟩
        rw [← hS'] at HT HP hsi
        clear hS'
        have hSl : S'.length ≤ 101 := by have : S'.length ≤ k + 1 := (hsi); omega
        have hRl : R.length ≤ 101 := by have := HP.out.2.length_eq; omega
        obtain ⟨i, hi, hL⟩ := first_f R (by omega)
        have HI := Aside0.mk hi
        clear hi
        rcases least_hd HP.out.1 HP.out.2 hL with ⟨eS, eR, ei⟩ | ⟨n, m, t, hn, rfl, eS, em, hpt⟩
        · have ES := Aside0.mk eS
          rw [eS] at HT
          have hf := sit_first_none HT.out
          clear eS hL
          have ER := Aside0.mk eR
          have hz : decide ((0 : Int) ≤ i) = false := decide_eq_false (by omega)
          clear ei
          have hRS := Aside0.mk (show R.length = ([] : List D).length by rw [eR])
          clear eR
          skip
          go_at_call 12
          refine hf.mono ?_
          rintro e wa ⟨rfl, hs⟩
          have hr0 := hs.swap.row
          obtain ⟨_, hcc, hC⟩ := Kd.R_reads' hr0
          have HSA := Aside0.mk (hs.skip (.cells #[.int .i64 0, .int .i64 0] 30))
          have hfi := Pa.quartermasterref15_First.calls _ A1 c1 R i _ (Kd.C_alloc hC (.cells #[.int .i64 0, .int .i64 0] 30)) hcc HI.out
          clear hs hf hr0 hC hcc
          go_wp2_with fail
          go_at_call 13
          refine hfi.mono ?_
          rintro e wb ⟨rfl, ⟨nd, rfl⟩⟩
          clear hfi
          have hln := fun m => sit_len (HSA.out.drewN m)
          rw [← hRS.out] at hln
          go_wp2
          go_quiet ((go_at_call 11; exact (hln _).mono (fun _ _ h => ⟨h.1, _, h.2.symm⟩)))
          go_wp2
          exact ⟨⟨k + 1, S', R, A1, c1, by omega, by go_num, rfl, (hsi), HP, ⟨by rw [ES.out]; exact HSA.out.drewN _⟩⟩, by simp [intOf]; omega⟩
        · have ES := Aside0.mk eS
          rw [eS] at HT
          have hf := sit_first_some HT.out
          clear eS hL
          have hRS := Aside0.mk (show R.length = (m :: t).length by rw [← ES.out]; exact HP.out.2.length_eq)
          skip
          go_at_call 12
          refine hf.mono ?_
          rintro e wa ⟨rfl, hs⟩
          have hr0 := hs.swap.row
          obtain ⟨_, hcc, hC⟩ := Kd.R_reads' hr0
          obtain ⟨g, rfl, hg, d0, d1⟩ := row_cells hr0 n hn
          rw [em] at d0 d1
          have HSA := Aside0.mk (hs.skip (.cells #[.int .i64 m.f0, .int .i64 m.f1] 30))
          have hfi := Pa.quartermasterref15_First.calls _ (some ⟨g, 0, none⟩) c1 R (n : Int) _ (Kd.C_alloc hC (.cells #[.int .i64 m.f0, .int .i64 m.f1] 30)) hcc HI.out
          have HEM := Aside0.mk (And.intro em hpt)
          clear hs hf hr0 hC hcc em hpt
          go_wp2_with fail
          go_at_call 13
          refine hfi.mono ?_
          rintro e wb ⟨rfl, ⟨nd, rfl⟩⟩
          clear hfi
          have hln := fun m => sit_len (HSA.out.drewN m)
          rw [← hRS.out] at hln
          have hn0 : (n : Int) < (R.length : Int) := by omega
          go_wp2
          go_quiet ((go_at_call 11; exact (hln _).mono (fun _ _ h => ⟨h.1, _, h.2.symm⟩)))
          go_wp2
          exact ⟨⟨k + 1, S', R, _, c1, by omega, by go_num, rfl, (hsi), HP, ⟨by rw [ES.out]; exact HSA.out.drewN _⟩⟩, by simp [intOf]; omega⟩
      by_cases k1 : x.f0 = 1
      · have q0 : (x.f0 == 0) = false := beq_eq_false_iff_ne.2 k0
        have q1 : (x.f0 == 1) = true := beq_iff_eq.2 k1
        clear k0 k1
        obtain ⟨i0, hi0, hL0⟩ := first_f r (by omega)
        have HI0 := Aside0.mk hi0
        clear hi0
        rcases least_hd HSR.out.1 HSR.out.2 hL0 with ⟨eS0, eR0, ei0⟩ | ⟨n0, m0, t0, hn0', rfl, eS0, em0, hpt0⟩
        · have hz0 : decide ((0 : Int) ≤ i0) = false := decide_eq_false (by omega)
          have htk := sit_take_none x.f1.f0 HX.out.swap (fun m t e => by rw [eS0] at e; cases e)
          clear HX HS eS0 eR0 ei0 hL0
          go_wp2_with fail
          go_at_call 10
          refine htk.mono ?_
          rintro e w2 ⟨rfl, hs⟩
          obtain ⟨d0, d1, _, _, d4⟩ := hs.swap.blk2
          obtain ⟨_, hcc0, hC0⟩ := Kd.R_reads' hs.swap.tail.swap.row
          have HSQ := Aside0.mk hs.swap.tail
          have hfi0 := Pa.quartermasterref15_First.calls _ A c r i0 _ (Kd.C_alloc hC0 (.cells #[.int .i64 0, .int .i64 0] 30)) hcc0 HI0.out
          clear hs htk hcc0 hC0
          go_wp2_with fail
          go_at_call 13
          refine hfi0.mono ?_
          rintro e wb0 ⟨rfl, ⟨nd0, rfl⟩⟩
          clear hfi0
          go_wp2_with fail
          go_quiet (fail)
          go_wp2_with fail
          have HT := Aside0.mk ((((HSQ.out.skip (.cells #[.int .i64 0, .int .i64 0] 30)).drewN nd0).skip (.cells #[.int .i64 0, .int .i64 0] 30)).drewN nq)
          clear HSQ
          have hSl : s.length ≤ 101 := by have : s.length ≤ k + 1 := (by omega); omega
          have hRl : r.length ≤ 101 := by have := HSR.out.2.length_eq; omega
          obtain ⟨i, hi, hL⟩ := first_f r (by omega)
          have HI := Aside0.mk hi
          clear hi
          rcases least_hd HSR.out.1 HSR.out.2 hL with ⟨eS, eR, ei⟩ | ⟨n, m, t, hn, rfl, eS, em, hpt⟩
          · have ES := Aside0.mk eS
            rw [eS] at HT
            have hf := sit_first_none HT.out
            clear eS hL
            have ER := Aside0.mk eR
            have hz : decide ((0 : Int) ≤ i) = false := decide_eq_false (by omega)
            clear ei
            have hRS := Aside0.mk (show r.length = ([] : List D).length by rw [eR])
            clear eR
            skip
            go_at_call 12
            refine hf.mono ?_
            rintro e wa ⟨rfl, hs⟩
            have hr0 := hs.swap.row
            obtain ⟨_, hcc, hC⟩ := Kd.R_reads' hr0
            have HSA := Aside0.mk (hs.skip (.cells #[.int .i64 0, .int .i64 0] 30))
            have hfi := Pa.quartermasterref15_First.calls _ A c r i _ (Kd.C_alloc hC (.cells #[.int .i64 0, .int .i64 0] 30)) hcc HI.out
            clear hs hf hr0 hC hcc
            go_wp2_with fail
            go_at_call 13
            refine hfi.mono ?_
            rintro e wb ⟨rfl, ⟨nd, rfl⟩⟩
            clear hfi
            have hln := fun m => sit_len (HSA.out.drewN m)
            rw [← hRS.out] at hln
            go_wp2
            go_quiet ((go_at_call 11; exact (hln _).mono (fun _ _ h => ⟨h.1, _, h.2.symm⟩)))
            go_wp2
            exact ⟨⟨k + 1, s, r, A, c, by omega, by go_num, rfl, (by omega), HSR, ⟨by rw [ES.out]; exact HSA.out.drewN _⟩⟩, by simp [intOf]; omega⟩
          · have ES := Aside0.mk eS
            rw [eS] at HT
            have hf := sit_first_some HT.out
            clear eS hL
            have hRS := Aside0.mk (show r.length = (m :: t).length by rw [← ES.out]; exact HSR.out.2.length_eq)
            skip
            go_at_call 12
            refine hf.mono ?_
            rintro e wa ⟨rfl, hs⟩
            have hr0 := hs.swap.row
            obtain ⟨_, hcc, hC⟩ := Kd.R_reads' hr0
            obtain ⟨g, rfl, hg, d0, d1⟩ := row_cells hr0 n hn
            rw [em] at d0 d1
            have HSA := Aside0.mk (hs.skip (.cells #[.int .i64 m.f0, .int .i64 m.f1] 30))
            have hfi := Pa.quartermasterref15_First.calls _ (some ⟨g, 0, none⟩) c r (n : Int) _ (Kd.C_alloc hC (.cells #[.int .i64 m.f0, .int .i64 m.f1] 30)) hcc HI.out
            have HEM := Aside0.mk (And.intro em hpt)
            clear hs hf hr0 hC hcc em hpt
            go_wp2_with fail
            go_at_call 13
            refine hfi.mono ?_
            rintro e wb ⟨rfl, ⟨nd, rfl⟩⟩
            clear hfi
            have hln := fun m => sit_len (HSA.out.drewN m)
            rw [← hRS.out] at hln
            have hn0 : (n : Int) < (r.length : Int) := by omega
            go_wp2
            go_quiet ((go_at_call 11; exact (hln _).mono (fun _ _ h => ⟨h.1, _, h.2.symm⟩)))
            go_wp2
            exact ⟨⟨k + 1, s, r, _, c, by omega, by go_num, rfl, (by omega), HSR, ⟨by rw [ES.out]; exact HSA.out.drewN _⟩⟩, by simp [intOf]; omega⟩
        · by_cases hdue : m0.f0 ≤ x.f1.f0
          · have hg0 : decide (m0.f0 ≤ x.f1.f0) = true := decide_eq_true hdue
            have hs0 := HX.out.swap
            rw [eS0] at hs0
            have hsl : s.length = t0.length + 1 := by rw [eS0]; rfl
            have htk := sit_take_some x.f1.f0 hs0 hdue (by omega)
            have HE0 := Aside0.mk (And.intro eS0 (And.intro em0 hpt0))
            have HSL := Aside0.mk hsl
            clear HX HS hs0 eS0 hL0 hdue hsl hpt0
            go_wp2_with fail
            go_at_call 10
            refine htk.mono ?_
            rintro e w2 ⟨rfl, hs⟩
            obtain ⟨d0, d1, _, _, d4⟩ := hs.swap.blk2
            have hrow0 := hs.swap.tail.swap.row
            obtain ⟨_, hcc0, hC0⟩ := Kd.R_reads' hrow0
            obtain ⟨g0, rfl, hg0l, r0, r1⟩ := row_cells hrow0 n0 hn0'
            rw [em0] at r0 r1
            have HSQ := Aside0.mk hs.swap.tail
            have hfi0 := Pa.quartermasterref15_First.calls _ (some ⟨g0, 0, none⟩) c r (n0 : Int) _ (Kd.C_alloc hC0 (.cells #[.int .i64 m0.f0, .int .i64 m0.f1] 30)) hcc0 HI0.out
            have hn00 : (n0 : Int) < (r.length : Int) := by omega
            have hz0 : decide ((0 : Int) ≤ (n0 : Int)) = true := decide_eq_true (by omega)
            have HCC := Aside0.mk hcc0
            clear hs htk hcc0 hC0 hrow0 em0
            go_wp2_with fail
            go_at_call 13
            refine hfi0.mono ?_
            rintro e wb0 ⟨rfl, ⟨nd0, rfl⟩⟩
            clear hfi0
            go_wp2_with fail
            go_quiet (fail)
            have s1 := ((HSQ.out.alloc #[.int .i64 m0.f0, .int .i64 m0.f1] 30).drewN nd0).alloc #[.int .i64 0, .int .i64 0] 30
            have es : ((w2.alloc (.cells #[.int .i64 m0.f0, .int .i64 m0.f1] 30)).drewN nd0).heap.size = w2.heap.size + 1 := size_alloc _ _
            rw [es] at s1
            have s4 := ((s1.drewN nq).set 0 (.int .i64 m0.f0)).set 1 (.int .i64 m0.f1)
            have S4 := Aside0.mk s4
            obtain ⟨_, hcc1, hC1⟩ := Kd.R_reads' s4.tail.tail.swap.row
            obtain ⟨R, hR⟩ : ∃ R, R = r.take n0 ++ r.drop (n0 + 1) := ⟨_, rfl⟩
            have hwf := without_f r n0 hn0' (by omega) (by omega)
            rw [← hR] at hwf
            have hwi := Pa.quartermasterref15_Without.calls _ _ r (n0 : Int) R _ hC1 hcc1 hwf
            have HP : Aside0 (Sorted t0 ∧ R.Perm t0) := ⟨by have := HSR.out.1; rw [HE0.out.1] at this; exact (sorted_tail0 this), by rw [hR]; exact HE0.out.2.2⟩
            clear s1 es s4 hC1 hcc1 hwf hR HSQ
            go_wp2_with fail
            go_at_call 14
            refine hwi.mono ?_
            rintro e w5 ⟨v5, rfl, hv, hb⟩
            obtain ⟨A1, c1, rfl⟩ := Kd.R_slice hv
            have s5 := S4.out.behind hb
            obtain ⟨y0, y1, _, _, y4⟩ := s5.blk2
            obtain ⟨z0, z1, _, _, z4⟩ := s5.swap.blk2
            have HT := Aside0.mk (S4.out.tail.tail.swap.tail.newrow hb hv).swap
            have ht0 : t0.length ≤ k + 1 := by have := HSL.out; omega
            clear hwi hv hb s5 r0 r1 hg0l
            go_wp2_with fail
            have hSl : t0.length ≤ 101 := by have : t0.length ≤ k + 1 := (ht0); omega
            have hRl : R.length ≤ 101 := by have := HP.out.2.length_eq; omega
            obtain ⟨i, hi, hL⟩ := first_f R (by omega)
            have HI := Aside0.mk hi
            clear hi
            rcases least_hd HP.out.1 HP.out.2 hL with ⟨eS, eR, ei⟩ | ⟨n, m, t, hn, rfl, eS, em, hpt⟩
            · have ES := Aside0.mk eS
              rw [eS] at HT
              have hf := sit_first_none HT.out
              clear eS hL
              have ER := Aside0.mk eR
              have hz : decide ((0 : Int) ≤ i) = false := decide_eq_false (by omega)
              clear ei
              have hRS := Aside0.mk (show R.length = ([] : List D).length by rw [eR])
              clear eR
              skip
              go_at_call 12
              refine hf.mono ?_
              rintro e wa ⟨rfl, hs⟩
              have hr0 := hs.swap.row
              obtain ⟨_, hcc, hC⟩ := Kd.R_reads' hr0
              have HSA := Aside0.mk (hs.skip (.cells #[.int .i64 0, .int .i64 0] 30))
              have hfi := Pa.quartermasterref15_First.calls _ A1 c1 R i _ (Kd.C_alloc hC (.cells #[.int .i64 0, .int .i64 0] 30)) hcc HI.out
              clear hs hf hr0 hC hcc
              go_wp2_with fail
              go_at_call 13
              refine hfi.mono ?_
              rintro e wb ⟨rfl, ⟨nd, rfl⟩⟩
              clear hfi
              have hln := fun m => sit_len (HSA.out.drewN m)
              rw [← hRS.out] at hln
              go_wp2
              go_quiet ((go_at_call 11; exact (hln _).mono (fun _ _ h => ⟨h.1, _, h.2.symm⟩)))
              go_wp2
              exact ⟨⟨k + 1, t0, R, A1, c1, by omega, by go_num, rfl, (ht0), HP, ⟨by rw [ES.out]; exact HSA.out.drewN _⟩⟩, by simp [intOf]; omega⟩
            · have ES := Aside0.mk eS
              rw [eS] at HT
              have hf := sit_first_some HT.out
              clear eS hL
              have hRS := Aside0.mk (show R.length = (m :: t).length by rw [← ES.out]; exact HP.out.2.length_eq)
              skip
              go_at_call 12
              refine hf.mono ?_
              rintro e wa ⟨rfl, hs⟩
              have hr0 := hs.swap.row
              obtain ⟨_, hcc, hC⟩ := Kd.R_reads' hr0
              obtain ⟨g, rfl, hg, d0, d1⟩ := row_cells hr0 n hn
              rw [em] at d0 d1
              have HSA := Aside0.mk (hs.skip (.cells #[.int .i64 m.f0, .int .i64 m.f1] 30))
              have hfi := Pa.quartermasterref15_First.calls _ (some ⟨g, 0, none⟩) c1 R (n : Int) _ (Kd.C_alloc hC (.cells #[.int .i64 m.f0, .int .i64 m.f1] 30)) hcc HI.out
              have HEM := Aside0.mk (And.intro em hpt)
              clear hs hf hr0 hC hcc em hpt
              go_wp2_with fail
              go_at_call 13
              refine hfi.mono ?_
              rintro e wb ⟨rfl, ⟨nd, rfl⟩⟩
              clear hfi
              have hln := fun m => sit_len (HSA.out.drewN m)
              rw [← hRS.out] at hln
              have hn0 : (n : Int) < (R.length : Int) := by omega
              go_wp2
              go_quiet ((go_at_call 11; exact (hln _).mono (fun _ _ h => ⟨h.1, _, h.2.symm⟩)))
              go_wp2
              exact ⟨⟨k + 1, t0, R, _, c1, by omega, by go_num, rfl, (ht0), HP, ⟨by rw [ES.out]; exact HSA.out.drewN _⟩⟩, by simp [intOf]; omega⟩
          · have hg0 : decide (m0.f0 ≤ x.f1.f0) = false := decide_eq_false hdue
            have htk := sit_take_none x.f1.f0 HX.out.swap (fun m t e => by rw [eS0] at e; injection e with e _; subst e; omega)
            clear HX HS eS0 hL0 hdue hpt0
            go_wp2_with fail
            go_at_call 10
            refine htk.mono ?_
            rintro e w2 ⟨rfl, hs⟩
            obtain ⟨d0, d1, _, _, d4⟩ := hs.swap.blk2
            have hrow0 := hs.swap.tail.swap.row
            obtain ⟨_, hcc0, hC0⟩ := Kd.R_reads' hrow0
            obtain ⟨g0, rfl, hg0l, r0, r1⟩ := row_cells hrow0 n0 hn0'
            rw [em0] at r0 r1
            have HSQ := Aside0.mk hs.swap.tail
            have hfi0 := Pa.quartermasterref15_First.calls _ (some ⟨g0, 0, none⟩) c r (n0 : Int) _ (Kd.C_alloc hC0 (.cells #[.int .i64 0, .int .i64 0] 30)) hcc0 HI0.out
            have hn00 : (n0 : Int) < (r.length : Int) := by omega
            have hz0 : decide ((0 : Int) ≤ (n0 : Int)) = true := decide_eq_true (by omega)
            clear hs htk hcc0 hC0 hrow0 em0
            go_wp2_with fail
            go_at_call 13
            refine hfi0.mono ?_
            rintro e wb0 ⟨rfl, ⟨nd0, rfl⟩⟩
            clear hfi0
            go_wp2_with fail
            go_quiet (fail)
            go_wp2_with fail
            have HT := Aside0.mk ((((HSQ.out.skip (.cells #[.int .i64 0, .int .i64 0] 30)).drewN nd0).skip (.cells #[.int .i64 0, .int .i64 0] 30)).drewN nq)
            clear HSQ r0 r1 hg0l
            obtain ⟨A, hA⟩ : ∃ A : Option Addr, A = some ⟨g0, 0, none⟩ := ⟨_, rfl⟩
            rw [← hA] at HT ⊢
            clear hA
            have hSl : s.length ≤ 101 := by have : s.length ≤ k + 1 := (by omega); omega
            have hRl : r.length ≤ 101 := by have := HSR.out.2.length_eq; omega
            obtain ⟨i, hi, hL⟩ := first_f r (by omega)
            have HI := Aside0.mk hi
            clear hi
            rcases least_hd HSR.out.1 HSR.out.2 hL with ⟨eS, eR, ei⟩ | ⟨n, m, t, hn, rfl, eS, em, hpt⟩
            · have ES := Aside0.mk eS
              rw [eS] at HT
              have hf := sit_first_none HT.out
              clear eS hL
              have ER := Aside0.mk eR
              have hz : decide ((0 : Int) ≤ i) = false := decide_eq_false (by omega)
              clear ei
              have hRS := Aside0.mk (show r.length = ([] : List D).length by rw [eR])
              clear eR
              skip
              go_at_call 12
              refine hf.mono ?_
              rintro e wa ⟨rfl, hs⟩
              have hr0 := hs.swap.row
              obtain ⟨_, hcc, hC⟩ := Kd.R_reads' hr0
              have HSA := Aside0.mk (hs.skip (.cells #[.int .i64 0, .int .i64 0] 30))
              have hfi := Pa.quartermasterref15_First.calls _ A c r i _ (Kd.C_alloc hC (.cells #[.int .i64 0, .int .i64 0] 30)) hcc HI.out
              clear hs hf hr0 hC hcc
              go_wp2_with fail
              go_at_call 13
              refine hfi.mono ?_
              rintro e wb ⟨rfl, ⟨nd, rfl⟩⟩
              clear hfi
              have hln := fun m => sit_len (HSA.out.drewN m)
              rw [← hRS.out] at hln
              go_wp2
              go_quiet ((go_at_call 11; exact (hln _).mono (fun _ _ h => ⟨h.1, _, h.2.symm⟩)))
              go_wp2
              exact ⟨⟨k + 1, s, r, A, c, by omega, by go_num, rfl, (by omega), HSR, ⟨by rw [ES.out]; exact HSA.out.drewN _⟩⟩, by simp [intOf]; omega⟩
            · have ES := Aside0.mk eS
              rw [eS] at HT
              have hf := sit_first_some HT.out
              clear eS hL
              have hRS := Aside0.mk (show r.length = (m :: t).length by rw [← ES.out]; exact HSR.out.2.length_eq)
              skip
              go_at_call 12
              refine hf.mono ?_
              rintro e wa ⟨rfl, hs⟩
              have hr0 := hs.swap.row
              obtain ⟨_, hcc, hC⟩ := Kd.R_reads' hr0
              obtain ⟨g, rfl, hg, d0, d1⟩ := row_cells hr0 n hn
              rw [em] at d0 d1
              have HSA := Aside0.mk (hs.skip (.cells #[.int .i64 m.f0, .int .i64 m.f1] 30))
              have hfi := Pa.quartermasterref15_First.calls _ (some ⟨g, 0, none⟩) c r (n : Int) _ (Kd.C_alloc hC (.cells #[.int .i64 m.f0, .int .i64 m.f1] 30)) hcc HI.out
              have HEM := Aside0.mk (And.intro em hpt)
              clear hs hf hr0 hC hcc em hpt
              go_wp2_with fail
              go_at_call 13
              refine hfi.mono ?_
              rintro e wb ⟨rfl, ⟨nd, rfl⟩⟩
              clear hfi
              have hln := fun m => sit_len (HSA.out.drewN m)
              rw [← hRS.out] at hln
              have hn0 : (n : Int) < (r.length : Int) := by omega
              go_wp2
              go_quiet ((go_at_call 11; exact (hln _).mono (fun _ _ h => ⟨h.1, _, h.2.symm⟩)))
              go_wp2
              exact ⟨⟨k + 1, s, r, _, c, by omega, by go_num, rfl, (by omega), HSR, ⟨by rw [ES.out]; exact HSA.out.drewN _⟩⟩, by simp [intOf]; omega⟩
      by_cases k2 : x.f0 = 2
      · have q0 : (x.f0 == 0) = false := beq_eq_false_iff_ne.2 k0
        have q1 : (x.f0 == 1) = false := beq_eq_false_iff_ne.2 k1
        have q2 : (x.f0 == 2) = true := beq_iff_eq.2 k2
        clear k0 k1 k2
        have hdr := sit_drop x.f1.f1 HX.out.swap (by omega)
        obtain ⟨S', hS'⟩ : ∃ S', S' = s.filter (fun d => !hit x.f1.f1 d) := ⟨_, rfl⟩
        obtain ⟨R, hR⟩ : ∃ R, R = r.filter (fun d => !hit x.f1.f1 d) := ⟨_, rfl⟩
        rw [← hS'] at hdr
        have hSl' : S'.length ≤ s.length := by rw [hS']; exact List.length_filter_le _ _
        have hRl' : R.length ≤ r.length := by rw [hR]; exact List.length_filter_le _ _
        have hrs : r.length = s.length := HSR.out.2.length_eq
        have hRS' : R.length = S'.length := by rw [hR, hS']; exact (HSR.out.2.filter _).length_eq
        obtain ⟨nn, hnn⟩ : ∃ nn : Int, nn = (s.length : Int) - (S'.length : Int) := ⟨_, rfl⟩
        rw [← hnn] at hdr
        have hne : (nn != (r.length : Int) - (R.length : Int)) = false := by rw [bne_eq_false_iff_eq]; omega
        have HP : Aside0 (Sorted S' ∧ R.Perm S') := ⟨by rw [hS']; exact HSR.out.1.sublist List.filter_sublist, by rw [hR, hS']; exact HSR.out.2.filter _⟩
        have hrf := drop_f r x.f1.f1 (by omega)
        rw [← hR] at hrf
        have HRF := Aside0.mk hrf
        clear HX HS hS' hR hnn hrs hRS' hrf
        go_wp2_with fail
        go_at_call 15
        refine hdr.mono ?_
        rintro e w2 ⟨rfl, hs⟩
        obtain ⟨d0, d1, _, _, d4⟩ := hs.swap.blk2
        obtain ⟨_, hcc0, hC0⟩ := Kd.R_reads' hs.swap.tail.swap.row
        have HSQ := Aside0.mk hs.swap.tail.swap.tail
        have hrd := Pa.quartermasterref15_Drop.calls _ A c r x.f1.f1 R w2 hC0 hcc0 HRF.out
        clear hs hdr hcc0 hC0
        go_wp2_with fail
        go_at_call 16
        refine hrd.mono ?_
        rintro e w3 ⟨v, rfl, hv, hb⟩
        obtain ⟨A1, c1, rfl⟩ := Kd.R_slice hv
        have HT := Aside0.mk (HSQ.out.newrow hb hv).swap
        clear hrd hv hb
        go_wp2_with fail
        have hSl : S'.length ≤ 101 := by have : S'.length ≤ k + 1 := (by omega); omega
        have hRl : R.length ≤ 101 := by have := HP.out.2.length_eq; omega
        obtain ⟨i, hi, hL⟩ := first_f R (by omega)
        have HI := Aside0.mk hi
        clear hi
        rcases least_hd HP.out.1 HP.out.2 hL with ⟨eS, eR, ei⟩ | ⟨n, m, t, hn, rfl, eS, em, hpt⟩
        · have ES := Aside0.mk eS
          rw [eS] at HT
          have hf := sit_first_none HT.out
          clear eS hL
          have ER := Aside0.mk eR
          have hz : decide ((0 : Int) ≤ i) = false := decide_eq_false (by omega)
          clear ei
          have hRS := Aside0.mk (show R.length = ([] : List D).length by rw [eR])
          clear eR
          skip
          go_at_call 12
          refine hf.mono ?_
          rintro e wa ⟨rfl, hs⟩
          have hr0 := hs.swap.row
          obtain ⟨_, hcc, hC⟩ := Kd.R_reads' hr0
          have HSA := Aside0.mk (hs.skip (.cells #[.int .i64 0, .int .i64 0] 30))
          have hfi := Pa.quartermasterref15_First.calls _ A1 c1 R i _ (Kd.C_alloc hC (.cells #[.int .i64 0, .int .i64 0] 30)) hcc HI.out
          clear hs hf hr0 hC hcc
          go_wp2_with fail
          go_at_call 13
          refine hfi.mono ?_
          rintro e wb ⟨rfl, ⟨nd, rfl⟩⟩
          clear hfi
          have hln := fun m => sit_len (HSA.out.drewN m)
          rw [← hRS.out] at hln
          go_wp2
          go_quiet ((go_at_call 11; exact (hln _).mono (fun _ _ h => ⟨h.1, _, h.2.symm⟩)))
          go_wp2
          exact ⟨⟨k + 1, S', R, A1, c1, by omega, by go_num, rfl, (by omega), HP, ⟨by rw [ES.out]; exact HSA.out.drewN _⟩⟩, by simp [intOf]; omega⟩
        · have ES := Aside0.mk eS
          rw [eS] at HT
          have hf := sit_first_some HT.out
          clear eS hL
          have hRS := Aside0.mk (show R.length = (m :: t).length by rw [← ES.out]; exact HP.out.2.length_eq)
          skip
          go_at_call 12
          refine hf.mono ?_
          rintro e wa ⟨rfl, hs⟩
          have hr0 := hs.swap.row
          obtain ⟨_, hcc, hC⟩ := Kd.R_reads' hr0
          obtain ⟨g, rfl, hg, d0, d1⟩ := row_cells hr0 n hn
          rw [em] at d0 d1
          have HSA := Aside0.mk (hs.skip (.cells #[.int .i64 m.f0, .int .i64 m.f1] 30))
          have hfi := Pa.quartermasterref15_First.calls _ (some ⟨g, 0, none⟩) c1 R (n : Int) _ (Kd.C_alloc hC (.cells #[.int .i64 m.f0, .int .i64 m.f1] 30)) hcc HI.out
          have HEM := Aside0.mk (And.intro em hpt)
          clear hs hf hr0 hC hcc em hpt
          go_wp2_with fail
          go_at_call 13
          refine hfi.mono ?_
          rintro e wb ⟨rfl, ⟨nd, rfl⟩⟩
          clear hfi
          have hln := fun m => sit_len (HSA.out.drewN m)
          rw [← hRS.out] at hln
          have hn0 : (n : Int) < (R.length : Int) := by omega
          go_wp2
          go_quiet ((go_at_call 11; exact (hln _).mono (fun _ _ h => ⟨h.1, _, h.2.symm⟩)))
          go_wp2
          exact ⟨⟨k + 1, S', R, _, c1, by omega, by go_num, rfl, (by omega), HP, ⟨by rw [ES.out]; exact HSA.out.drewN _⟩⟩, by simp [intOf]; omega⟩
      have q0 : (x.f0 == 0) = false := beq_eq_false_iff_ne.2 k0
      have q1 : (x.f0 == 1) = false := beq_eq_false_iff_ne.2 k1
      have q2 : (x.f0 == 2) = false := beq_eq_false_iff_ne.2 k2
      clear k0 k1 k2
      have HT := Aside0.mk HX.out.tail
      clear HX HS
      have hSl : s.length ≤ 101 := by have : s.length ≤ k + 1 := (by omega); omega
      have hRl : r.length ≤ 101 := by have := HSR.out.2.length_eq; omega
      obtain ⟨i, hi, hL⟩ := first_f r (by omega)
      have HI := Aside0.mk hi
      clear hi
      rcases least_hd HSR.out.1 HSR.out.2 hL with ⟨eS, eR, ei⟩ | ⟨n, m, t, hn, rfl, eS, em, hpt⟩
      · have ES := Aside0.mk eS
        rw [eS] at HT
        have hf := sit_first_none HT.out
        clear eS hL
        have ER := Aside0.mk eR
        have hz : decide ((0 : Int) ≤ i) = false := decide_eq_false (by omega)
        clear ei
        have hRS := Aside0.mk (show r.length = ([] : List D).length by rw [eR])
        clear eR
        go_wp2_with fail
        go_at_call 12
        refine hf.mono ?_
        rintro e wa ⟨rfl, hs⟩
        have hr0 := hs.swap.row
        obtain ⟨_, hcc, hC⟩ := Kd.R_reads' hr0
        have HSA := Aside0.mk (hs.skip (.cells #[.int .i64 0, .int .i64 0] 30))
        have hfi := Pa.quartermasterref15_First.calls _ A c r i _ (Kd.C_alloc hC (.cells #[.int .i64 0, .int .i64 0] 30)) hcc HI.out
        clear hs hf hr0 hC hcc
        go_wp2_with fail
        go_at_call 13
        refine hfi.mono ?_
        rintro e wb ⟨rfl, ⟨nd, rfl⟩⟩
        clear hfi
        have hln := fun m => sit_len (HSA.out.drewN m)
        rw [← hRS.out] at hln
        go_wp2
        go_quiet ((go_at_call 11; exact (hln _).mono (fun _ _ h => ⟨h.1, _, h.2.symm⟩)))
        go_wp2
        exact ⟨⟨k + 1, s, r, A, c, by omega, by go_num, rfl, (by omega), HSR, ⟨by rw [ES.out]; exact HSA.out.drewN _⟩⟩, by simp [intOf]; omega⟩
      · have ES := Aside0.mk eS
        rw [eS] at HT
        have hf := sit_first_some HT.out
        clear eS hL
        have hRS := Aside0.mk (show r.length = (m :: t).length by rw [← ES.out]; exact HSR.out.2.length_eq)
        go_wp2_with fail
        go_at_call 12
        refine hf.mono ?_
        rintro e wa ⟨rfl, hs⟩
        have hr0 := hs.swap.row
        obtain ⟨_, hcc, hC⟩ := Kd.R_reads' hr0
        obtain ⟨g, rfl, hg, d0, d1⟩ := row_cells hr0 n hn
        rw [em] at d0 d1
        have HSA := Aside0.mk (hs.skip (.cells #[.int .i64 m.f0, .int .i64 m.f1] 30))
        have hfi := Pa.quartermasterref15_First.calls _ (some ⟨g, 0, none⟩) c r (n : Int) _ (Kd.C_alloc hC (.cells #[.int .i64 m.f0, .int .i64 m.f1] 30)) hcc HI.out
        have HEM := Aside0.mk (And.intro em hpt)
        clear hs hf hr0 hC hcc em hpt
        go_wp2_with fail
        go_at_call 13
        refine hfi.mono ?_
        rintro e wb ⟨rfl, ⟨nd, rfl⟩⟩
        clear hfi
        have hln := fun m => sit_len (HSA.out.drewN m)
        rw [← hRS.out] at hln
        have hn0 : (n : Int) < (r.length : Int) := by omega
        go_wp2
        go_quiet ((go_at_call 11; exact (hln _).mono (fun _ _ h => ⟨h.1, _, h.2.symm⟩)))
        go_wp2
        exact ⟨⟨k + 1, s, r, _, c, by omega, by go_num, rfl, (by omega), HSR, ⟨by rw [ES.out]; exact HSA.out.drewN _⟩⟩, by simp [intOf]; omega⟩
    · obtain rfl : k = l.length := by omega
      go_wp2
      go_ret
      exact ⟨rfl, HS.out.below⟩
theorem dueDoes_calls (A0 : Option Addr) (c0 : Nat) (l0 : List S39) (w : World) (hm : l0.length ≤ maxLen) (hw : ∀ z ∈ l0, qT39 z) (hC : Kd.C k39 w A0 l0.length l0) (hc : l0.length ≤ c0) :
    Calls Try.prog 5 #[.slice A0 l0.length c0] w fun e w' => e = .returned (.bool true) ∧ Below w.heap.size w w' := dueDoes_any A0 c0 l0 w hC
end Go.Proofs.Ytghgjjpddemjkaa.Due
