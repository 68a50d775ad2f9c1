/- req: how fields are gone through, kind by kind. No conditions beside those that each contract states. -/
import Derived.Test.YtgdelfckhcgnhaaReqA
import Derived.Test.YtgdelfckhcgnhaaReqF1
import Derived.StillTailTactics
namespace Go.Proofs.Ytgdelfckhcgnhaa.Code
open Go.RowKit Go.Proofs.Ytgdelfckhcgnhaa.Pa Go.Proofs.YtgdelfckhcgnhaaW.PrintWords Go.Proofs.YtgdelfckhcgnhaaW.PrintLast Go.Proofs.YtgdelfckhcgnhaaW.PrintMore
attribute [local go_sem] Way.eF Way.eW Way.eL Way.eE
set_option linter.unusedVariables false
set_option linter.unusedSimpArgs false


set_option maxRecDepth 100000 in
set_option maxHeartbeats 16000000 in
theorem fields_6 {w0 : World} (Y : Way w0) {W : World} {T : List Thing} {rb : Nat} {s : Y.σ} {ns : List Int} {v : Value} (h : Sit w0 W (Y.H s ++ .blk rb (.cells (cs26 ns v) 26 (0, 0)) :: T)) (hn : ns.length = 9) (hk : ns.getD 0 0 = 6) (hr : ∀ x ∈ ns, Y.inr x) (hok : Y.ok 6 s) :
    Calls Try.prog 24 #[.pointer (some ⟨rb, 0, none⟩), .agg (wayC Y.nf Y.nw Y.nl Y.ne Y.q)] W fun e' w' => e' = .returned (.bool true) ∧ Sit w0 w' (Y.H (Y.steps [1, 6] s ns).1 ++ .blk rb (.cells (cs26 (Y.steps [1, 6] s ns).2 v) 26 (0, 0)) :: T) := by
  have hA := (h.alloc (wayC Y.nf Y.nw Y.nl Y.ne Y.q) 58).ins
  have hB := (hA.drew.alloc #[.pointer (some ⟨rb, 1, none⟩), .pointer (some ⟨rb, 6, none⟩)] 52).ins
  rw [show ((W.alloc (.cells (wayC Y.nf Y.nw Y.nl Y.ne Y.q) 58)).drew).heap.size = W.heap.size + 1 by simp [World.drew]] at hB
  have hSt : Sit w0 ((W.alloc (.cells (wayC Y.nf Y.nw Y.nl Y.ne Y.q) 58)).drew.alloc (.cells #[.pointer (some ⟨rb, 1, none⟩), .pointer (some ⟨rb, 6, none⟩)] 52)) (Y.H (Y.steps (List.take 0 [1, 6]) s ns).1 ++ .blk rb (.cells (cs26 (Y.steps (List.take 0 [1, 6]) s ns).2 v) 26 (0, 0)) :: .blk (W.heap.size + 1) (.cells #[.pointer (some ⟨rb, 1, none⟩), .pointer (some ⟨rb, 6, none⟩)] 52 (0, 0)) :: .blk W.heap.size (.cells (wayC Y.nf Y.nw Y.nl Y.ne Y.q) 58 (0, 0)) :: T) := hB
  have HB := Aside0.mk hSt
  obtain ⟨k0, -⟩ := sit_cell (i := 0) hA.hd (cs26_at (by omega))
  rw [hk] at k0
  have HK := Aside0.mk hk
  have HX := Aside0.mk (And.intro hn (And.intro hr hok))
  
  clear h hA hB hSt hn hr hok hk
  go_enter Try.func24, Try.ntmps24
  go_wp2
  go_still_tail 6, (by kernel_rfl)
  go_wp2
  obtain ⟨W2, hW2⟩ : ∃ W2 : World, W2 = (W.alloc (.cells (wayC Y.nf Y.nw Y.nl Y.ne Y.q) 58)).drew.alloc (.cells #[.pointer (some ⟨rb, 1, none⟩), .pointer (some ⟨rb, 6, none⟩)] 52) := ⟨_, rfl⟩
  rw [← hW2] at HB
  show Code.wp _ _ _ _ ((W.alloc (.cells (wayC Y.nf Y.nw Y.nl Y.ne Y.q) 58)).drew.alloc (.cells #[.pointer (some ⟨rb, 1, none⟩), .pointer (some ⟨rb, 6, none⟩)] 52))
  rw [← hW2]
  clear hW2 k0
  go_loopg [100] (2 + 1) (fun kq v100 w' => ∃ (I : Int) (j : Nat), v100 = .int .i64 I ∧ Aside0 (I = (j : Int) ∧ kq + j = 2 + 1 ∧ j ≤ 2) ∧ Aside0 (Sit w0 w' (Y.H (Y.steps (List.take j [1, 6]) s ns).1 ++ .blk rb (.cells (cs26 (Y.steps (List.take j [1, 6]) s ns).2 v) 26 (0, 0)) :: .blk (W.heap.size + 1) (.cells #[.pointer (some ⟨rb, 1, none⟩), .pointer (some ⟨rb, 6, none⟩)] 52 (0, 0)) :: .blk W.heap.size (.cells (wayC Y.nf Y.nw Y.nl Y.ne Y.q) 58 (0, 0)) :: T)))
  case atStart => exact ⟨0, 0, rfl, ⟨⟨rfl, rfl, Nat.zero_le _⟩⟩, HB⟩
  case round =>
    clear HB
    obtain ⟨I, j, rfl, HA, HS⟩ := hrel
    cases gk with
    | zero => exact absurd HA.out.2 (by omega)
    | succ k1 =>
      by_cases hi : I < 2
      · have p1 : decide (I < 2) = true := decide_eq_true hi
        have p2 : (0 ≤ I) = True := eq_true (by have := HA.out.1; omega)
        have p3 : (I < 2) = True := eq_true hi
        have hw9 : Aside0 (wrap64 (I + 1) = ((j + 1 : Nat) : Int)) := ⟨by have h3 := HA.out.1; unfold wrap64; omega⟩
        have hj : j < ([1, 6] : List Nat).length := by have h3 := HA.out.1; simp; omega
        obtain ⟨i, hi2⟩ : ∃ i, i = ([1, 6] : List Nat)[j] := ⟨_, rfl⟩
        have hi9 : i < 9 := by have : ∀ i ∈ ([1, 6] : List Nat), i < 9 := by decide
                               exact hi2 ▸ this _ (List.getElem_mem hj)
        have hsuc := Y.steps_succ s ns hj
        rw [← hi2] at hsuc
        have hln := Y.steps_len (List.take j [1, 6]) s ns
        have hok := Y.steps_ok (List.take j [1, 6]) (k := (6 - j - 1) + 1) (s := s) (ns := ns) (fun x hx => by
          have : ∀ i ∈ ([1, 6] : List Nat), i < 9 := by decide
          have := this x (List.mem_of_mem_take hx)
          rw [HX.out.1]; exact this) (by
          have e : 6 - j - 1 + 1 + (List.take j [1, 6]).length = 6 := by rw [List.length_take]; simp at hj ⊢; omega
          rw [e]; exact HX.out.2.2) HX.out.2.1
        have hSit := HS.out
        obtain ⟨p, hp⟩ : ∃ p, p = Y.steps (List.take j [1, 6]) s ns := ⟨_, rfl⟩
        rw [← hp] at hsuc hln hok hSit
        have hat := cs26_at (v := v) (show i < p.2.length by rw [hln, HX.out.1]; exact hi9)
        obtain ⟨pc, -⟩ := sit_cell (i := I.toNat) (v := .pointer (some ⟨rb, i, none⟩)) hSit.hd2 (by
          have e : I.toNat = j := by have := HA.out.1; omega
          rw [e, hi2]
          match j, hj with
          | 0, _ => rfl
          | 1, _ => rfl)
        obtain ⟨wc, -⟩ := sit_cell (i := 0) (v := .func (.func Y.nf) #[.pointer (some ⟨Y.q, 0, none⟩)] #[]) hSit.hd2.tail.hd2 rfl
        have PN := Aside0.mk (Y.cnum hok.1 (hok.2 _ (by simp [hln, HX.out.1, hi9])) hat hSit)
        have HQ : Aside0 (Y.steps (List.take (j + 1) [1, 6]) s ns = Y.step p i ∧ i < p.2.length) := ⟨hsuc, by rw [hln, HX.out.1]; exact hi9⟩
        clear hi hj hi2 hi9 hsuc hln hok hSit hp hat
        go_wp2_with (refine PN.out.mono ?_; rintro e' w1 ⟨rfl, hs⟩; have H1 := Aside0.mk hs; clear hs)
        go_roundg k1
        case measure => omega
        case rel => exact ⟨_, j + 1, rfl, ⟨hw9.out, by have h1 := HA.out; omega, by have h1 := HA.out; have h2 := of_eq_true p3; omega⟩, ⟨by
          rw [HQ.out.1]
          have h1 := H1.out
          rw [cs26_set HQ.out.2] at h1
          exact h1⟩⟩
      · have p1 : decide (I < 2) = false := decide_eq_false hi
        have hjn : j = 2 := by have := HA.out; omega
        subst hjn
        have hSit : Sit w0 wr (Y.H (Y.steps [1, 6] s ns).1 ++ .blk rb (.cells (cs26 (Y.steps [1, 6] s ns).2 v) 26 (0, 0)) :: .blk (W.heap.size + 1) (.cells #[.pointer (some ⟨rb, 1, none⟩), .pointer (some ⟨rb, 6, none⟩)] 52 (0, 0)) :: .blk W.heap.size (.cells (wayC Y.nf Y.nw Y.nl Y.ne Y.q) 58 (0, 0)) :: T) := HS.out
        have hln := Y.steps_len [1, 6] s ns
        have h0 : (Y.steps [1, 6] s ns).2.getD 0 0 = 6 := (Y.steps_zero [1, 6] s ns (by decide)).trans HK.out
        obtain ⟨k0, -⟩ := sit_cell (i := 0) hSit.hd (cs26_at (by rw [hln, HX.out.1]; decide))
        rw [h0] at k0
        have HT := Aside0.mk hSit
        clear hSit h0
        clear hln
        go_wp2
        go_ret
        exact ⟨rfl, HT.out.hd2.tail.hd2.tail⟩

set_option maxRecDepth 100000 in
set_option maxHeartbeats 16000000 in
theorem fields_7 {w0 : World} (Y : Way w0) {W : World} {T : List Thing} {rb : Nat} {s : Y.σ} {ns : List Int} {v : Value} (h : Sit w0 W (Y.H s ++ .blk rb (.cells (cs26 ns v) 26 (0, 0)) :: T)) (hn : ns.length = 9) (hk : ns.getD 0 0 = 7) (hr : ∀ x ∈ ns, Y.inr x) (hok : Y.ok 6 s) :
    Calls Try.prog 24 #[.pointer (some ⟨rb, 0, none⟩), .agg (wayC Y.nf Y.nw Y.nl Y.ne Y.q)] W fun e' w' => e' = .returned (.bool true) ∧ Sit w0 w' (Y.H (Y.steps [8] s ns).1 ++ .blk rb (.cells (cs26 (Y.steps [8] s ns).2 v) 26 (0, 0)) :: T) := by
  have hA := (h.alloc (wayC Y.nf Y.nw Y.nl Y.ne Y.q) 58).ins
  have hB := (hA.alloc #[.pointer (some ⟨rb, 8, none⟩)] 52).ins
  rw [show ((W.alloc (.cells (wayC Y.nf Y.nw Y.nl Y.ne Y.q) 58))).heap.size = W.heap.size + 1 by simp [World.drew]] at hB
  have hSt : Sit w0 ((W.alloc (.cells (wayC Y.nf Y.nw Y.nl Y.ne Y.q) 58)).alloc (.cells #[.pointer (some ⟨rb, 8, none⟩)] 52)) (Y.H (Y.steps (List.take 0 [8]) s ns).1 ++ .blk rb (.cells (cs26 (Y.steps (List.take 0 [8]) s ns).2 v) 26 (0, 0)) :: .blk (W.heap.size + 1) (.cells #[.pointer (some ⟨rb, 8, none⟩)] 52 (0, 0)) :: .blk W.heap.size (.cells (wayC Y.nf Y.nw Y.nl Y.ne Y.q) 58 (0, 0)) :: T) := hB
  have HB := Aside0.mk hSt
  obtain ⟨k0, -⟩ := sit_cell (i := 0) hA.hd (cs26_at (by omega))
  rw [hk] at k0
  have HK := Aside0.mk hk
  have HX := Aside0.mk (And.intro hn (And.intro hr hok))
  
  clear h hA hB hSt hn hr hok hk
  go_enter Try.func24, Try.ntmps24
  go_wp2
  obtain ⟨W2, hW2⟩ : ∃ W2 : World, W2 = (W.alloc (.cells (wayC Y.nf Y.nw Y.nl Y.ne Y.q) 58)).alloc (.cells #[.pointer (some ⟨rb, 8, none⟩)] 52) := ⟨_, rfl⟩
  rw [← hW2] at HB
  show Code.wp _ _ _ _ ((W.alloc (.cells (wayC Y.nf Y.nw Y.nl Y.ne Y.q) 58)).alloc (.cells #[.pointer (some ⟨rb, 8, none⟩)] 52))
  rw [← hW2]
  clear hW2 k0
  go_loopg [100] (1 + 1) (fun kq v100 w' => ∃ (I : Int) (j : Nat), v100 = .int .i64 I ∧ Aside0 (I = (j : Int) ∧ kq + j = 1 + 1 ∧ j ≤ 1) ∧ Aside0 (Sit w0 w' (Y.H (Y.steps (List.take j [8]) s ns).1 ++ .blk rb (.cells (cs26 (Y.steps (List.take j [8]) s ns).2 v) 26 (0, 0)) :: .blk (W.heap.size + 1) (.cells #[.pointer (some ⟨rb, 8, none⟩)] 52 (0, 0)) :: .blk W.heap.size (.cells (wayC Y.nf Y.nw Y.nl Y.ne Y.q) 58 (0, 0)) :: T)))
  case atStart => exact ⟨0, 0, rfl, ⟨⟨rfl, rfl, Nat.zero_le _⟩⟩, HB⟩
  case round =>
    clear HB
    obtain ⟨I, j, rfl, HA, HS⟩ := hrel
    cases gk with
    | zero => exact absurd HA.out.2 (by omega)
    | succ k1 =>
      by_cases hi : I < 1
      · have p1 : decide (I < 1) = true := decide_eq_true hi
        have p2 : (0 ≤ I) = True := eq_true (by have := HA.out.1; omega)
        have p3 : (I < 1) = True := eq_true hi
        have hw9 : Aside0 (wrap64 (I + 1) = ((j + 1 : Nat) : Int)) := ⟨by have h3 := HA.out.1; unfold wrap64; omega⟩
        have hj : j < ([8] : List Nat).length := by have h3 := HA.out.1; simp; omega
        obtain ⟨i, hi2⟩ : ∃ i, i = ([8] : List Nat)[j] := ⟨_, rfl⟩
        have hi9 : i < 9 := by have : ∀ i ∈ ([8] : List Nat), i < 9 := by decide
                               exact hi2 ▸ this _ (List.getElem_mem hj)
        have hsuc := Y.steps_succ s ns hj
        rw [← hi2] at hsuc
        have hln := Y.steps_len (List.take j [8]) s ns
        have hok := Y.steps_ok (List.take j [8]) (k := (6 - j - 1) + 1) (s := s) (ns := ns) (fun x hx => by
          have : ∀ i ∈ ([8] : List Nat), i < 9 := by decide
          have := this x (List.mem_of_mem_take hx)
          rw [HX.out.1]; exact this) (by
          have e : 6 - j - 1 + 1 + (List.take j [8]).length = 6 := by rw [List.length_take]; simp at hj ⊢; omega
          rw [e]; exact HX.out.2.2) HX.out.2.1
        have hSit := HS.out
        obtain ⟨p, hp⟩ : ∃ p, p = Y.steps (List.take j [8]) s ns := ⟨_, rfl⟩
        rw [← hp] at hsuc hln hok hSit
        have hat := cs26_at (v := v) (show i < p.2.length by rw [hln, HX.out.1]; exact hi9)
        obtain ⟨pc, -⟩ := sit_cell (i := I.toNat) (v := .pointer (some ⟨rb, i, none⟩)) hSit.hd2 (by
          have e : I.toNat = j := by have := HA.out.1; omega
          rw [e, hi2]
          match j, hj with
          | 0, _ => rfl)
        obtain ⟨wc, -⟩ := sit_cell (i := 0) (v := .func (.func Y.nf) #[.pointer (some ⟨Y.q, 0, none⟩)] #[]) hSit.hd2.tail.hd2 rfl
        have PN := Aside0.mk (Y.cnum hok.1 (hok.2 _ (by simp [hln, HX.out.1, hi9])) hat hSit)
        have HQ : Aside0 (Y.steps (List.take (j + 1) [8]) s ns = Y.step p i ∧ i < p.2.length) := ⟨hsuc, by rw [hln, HX.out.1]; exact hi9⟩
        clear hi hj hi2 hi9 hsuc hln hok hSit hp hat
        go_wp2_with (refine PN.out.mono ?_; rintro e' w1 ⟨rfl, hs⟩; have H1 := Aside0.mk hs; clear hs)
        go_roundg k1
        case measure => omega
        case rel => exact ⟨_, j + 1, rfl, ⟨hw9.out, by have h1 := HA.out; omega, by have h1 := HA.out; have h2 := of_eq_true p3; omega⟩, ⟨by
          rw [HQ.out.1]
          have h1 := H1.out
          rw [cs26_set HQ.out.2] at h1
          exact h1⟩⟩
      · have p1 : decide (I < 1) = false := decide_eq_false hi
        have hjn : j = 1 := by have := HA.out; omega
        subst hjn
        have hSit : Sit w0 wr (Y.H (Y.steps [8] s ns).1 ++ .blk rb (.cells (cs26 (Y.steps [8] s ns).2 v) 26 (0, 0)) :: .blk (W.heap.size + 1) (.cells #[.pointer (some ⟨rb, 8, none⟩)] 52 (0, 0)) :: .blk W.heap.size (.cells (wayC Y.nf Y.nw Y.nl Y.ne Y.q) 58 (0, 0)) :: T) := HS.out
        have hln := Y.steps_len [8] s ns
        have h0 : (Y.steps [8] s ns).2.getD 0 0 = 7 := (Y.steps_zero [8] s ns (by decide)).trans HK.out
        obtain ⟨k0, -⟩ := sit_cell (i := 0) hSit.hd (cs26_at (by rw [hln, HX.out.1]; decide))
        rw [h0] at k0
        have HT := Aside0.mk hSit
        clear hSit h0
        clear hln
        go_wp2
        go_ret
        exact ⟨rfl, HT.out.hd2.tail.hd2.tail⟩

set_option maxRecDepth 100000 in
set_option maxHeartbeats 16000000 in
theorem fields_8 {w0 : World} (Y : Way w0) {W : World} {T : List Thing} {rb : Nat} {s : Y.σ} {ns : List Int} {v : Value} (h : Sit w0 W (Y.H s ++ .blk rb (.cells (cs26 ns v) 26 (0, 0)) :: T)) (hn : ns.length = 9) (hk : ns.getD 0 0 = 8) (hr : ∀ x ∈ ns, Y.inr x) (hok : Y.ok 6 s) :
    Calls Try.prog 24 #[.pointer (some ⟨rb, 0, none⟩), .agg (wayC Y.nf Y.nw Y.nl Y.ne Y.q)] W fun e' w' => e' = .returned (.bool true) ∧ Sit w0 w' (Y.H (Y.steps [2, 3] s ns).1 ++ .blk rb (.cells (cs26 (Y.steps [2, 3] s ns).2 v) 26 (0, 0)) :: T) := by
  have hA := (h.alloc (wayC Y.nf Y.nw Y.nl Y.ne Y.q) 58).ins
  have hB := (hA.drew.alloc #[.pointer (some ⟨rb, 2, none⟩), .pointer (some ⟨rb, 3, none⟩)] 52).ins
  rw [show ((W.alloc (.cells (wayC Y.nf Y.nw Y.nl Y.ne Y.q) 58)).drew).heap.size = W.heap.size + 1 by simp [World.drew]] at hB
  have hSt : Sit w0 ((W.alloc (.cells (wayC Y.nf Y.nw Y.nl Y.ne Y.q) 58)).drew.alloc (.cells #[.pointer (some ⟨rb, 2, none⟩), .pointer (some ⟨rb, 3, none⟩)] 52)) (Y.H (Y.steps (List.take 0 [2, 3]) s ns).1 ++ .blk rb (.cells (cs26 (Y.steps (List.take 0 [2, 3]) s ns).2 v) 26 (0, 0)) :: .blk (W.heap.size + 1) (.cells #[.pointer (some ⟨rb, 2, none⟩), .pointer (some ⟨rb, 3, none⟩)] 52 (0, 0)) :: .blk W.heap.size (.cells (wayC Y.nf Y.nw Y.nl Y.ne Y.q) 58 (0, 0)) :: T) := hB
  have HB := Aside0.mk hSt
  obtain ⟨k0, -⟩ := sit_cell (i := 0) hA.hd (cs26_at (by omega))
  rw [hk] at k0
  have HK := Aside0.mk hk
  have HX := Aside0.mk (And.intro hn (And.intro hr hok))
  
  clear h hA hB hSt hn hr hok hk
  go_enter Try.func24, Try.ntmps24
  go_wp2
  go_still_tail 6, (by kernel_rfl)
  go_wp2
  obtain ⟨W2, hW2⟩ : ∃ W2 : World, W2 = (W.alloc (.cells (wayC Y.nf Y.nw Y.nl Y.ne Y.q) 58)).drew.alloc (.cells #[.pointer (some ⟨rb, 2, none⟩), .pointer (some ⟨rb, 3, none⟩)] 52) := ⟨_, rfl⟩
  rw [← hW2] at HB
  show Code.wp _ _ _ _ ((W.alloc (.cells (wayC Y.nf Y.nw Y.nl Y.ne Y.q) 58)).drew.alloc (.cells #[.pointer (some ⟨rb, 2, none⟩), .pointer (some ⟨rb, 3, none⟩)] 52))
  rw [← hW2]
  clear hW2 k0
  go_loopg [100] (2 + 1) (fun kq v100 w' => ∃ (I : Int) (j : Nat), v100 = .int .i64 I ∧ Aside0 (I = (j : Int) ∧ kq + j = 2 + 1 ∧ j ≤ 2) ∧ Aside0 (Sit w0 w' (Y.H (Y.steps (List.take j [2, 3]) s ns).1 ++ .blk rb (.cells (cs26 (Y.steps (List.take j [2, 3]) s ns).2 v) 26 (0, 0)) :: .blk (W.heap.size + 1) (.cells #[.pointer (some ⟨rb, 2, none⟩), .pointer (some ⟨rb, 3, none⟩)] 52 (0, 0)) :: .blk W.heap.size (.cells (wayC Y.nf Y.nw Y.nl Y.ne Y.q) 58 (0, 0)) :: T)))
  case atStart => exact ⟨0, 0, rfl, ⟨⟨rfl, rfl, Nat.zero_le _⟩⟩, HB⟩
  case round =>
    clear HB
    obtain ⟨I, j, rfl, HA, HS⟩ := hrel
    cases gk with
    | zero => exact absurd HA.out.2 (by omega)
    | succ k1 =>
      by_cases hi : I < 2
      · have p1 : decide (I < 2) = true := decide_eq_true hi
        have p2 : (0 ≤ I) = True := eq_true (by have := HA.out.1; omega)
        have p3 : (I < 2) = True := eq_true hi
        have hw9 : Aside0 (wrap64 (I + 1) = ((j + 1 : Nat) : Int)) := ⟨by have h3 := HA.out.1; unfold wrap64; omega⟩
        have hj : j < ([2, 3] : List Nat).length := by have h3 := HA.out.1; simp; omega
        obtain ⟨i, hi2⟩ : ∃ i, i = ([2, 3] : List Nat)[j] := ⟨_, rfl⟩
        have hi9 : i < 9 := by have : ∀ i ∈ ([2, 3] : List Nat), i < 9 := by decide
                               exact hi2 ▸ this _ (List.getElem_mem hj)
        have hsuc := Y.steps_succ s ns hj
        rw [← hi2] at hsuc
        have hln := Y.steps_len (List.take j [2, 3]) s ns
        have hok := Y.steps_ok (List.take j [2, 3]) (k := (6 - j - 1) + 1) (s := s) (ns := ns) (fun x hx => by
          have : ∀ i ∈ ([2, 3] : List Nat), i < 9 := by decide
          have := this x (List.mem_of_mem_take hx)
          rw [HX.out.1]; exact this) (by
          have e : 6 - j - 1 + 1 + (List.take j [2, 3]).length = 6 := by rw [List.length_take]; simp at hj ⊢; omega
          rw [e]; exact HX.out.2.2) HX.out.2.1
        have hSit := HS.out
        obtain ⟨p, hp⟩ : ∃ p, p = Y.steps (List.take j [2, 3]) s ns := ⟨_, rfl⟩
        rw [← hp] at hsuc hln hok hSit
        have hat := cs26_at (v := v) (show i < p.2.length by rw [hln, HX.out.1]; exact hi9)
        obtain ⟨pc, -⟩ := sit_cell (i := I.toNat) (v := .pointer (some ⟨rb, i, none⟩)) hSit.hd2 (by
          have e : I.toNat = j := by have := HA.out.1; omega
          rw [e, hi2]
          match j, hj with
          | 0, _ => rfl
          | 1, _ => rfl)
        obtain ⟨wc, -⟩ := sit_cell (i := 0) (v := .func (.func Y.nf) #[.pointer (some ⟨Y.q, 0, none⟩)] #[]) hSit.hd2.tail.hd2 rfl
        have PN := Aside0.mk (Y.cnum hok.1 (hok.2 _ (by simp [hln, HX.out.1, hi9])) hat hSit)
        have HQ : Aside0 (Y.steps (List.take (j + 1) [2, 3]) s ns = Y.step p i ∧ i < p.2.length) := ⟨hsuc, by rw [hln, HX.out.1]; exact hi9⟩
        clear hi hj hi2 hi9 hsuc hln hok hSit hp hat
        go_wp2_with (refine PN.out.mono ?_; rintro e' w1 ⟨rfl, hs⟩; have H1 := Aside0.mk hs; clear hs)
        go_roundg k1
        case measure => omega
        case rel => exact ⟨_, j + 1, rfl, ⟨hw9.out, by have h1 := HA.out; omega, by have h1 := HA.out; have h2 := of_eq_true p3; omega⟩, ⟨by
          rw [HQ.out.1]
          have h1 := H1.out
          rw [cs26_set HQ.out.2] at h1
          exact h1⟩⟩
      · have p1 : decide (I < 2) = false := decide_eq_false hi
        have hjn : j = 2 := by have := HA.out; omega
        subst hjn
        have hSit : Sit w0 wr (Y.H (Y.steps [2, 3] s ns).1 ++ .blk rb (.cells (cs26 (Y.steps [2, 3] s ns).2 v) 26 (0, 0)) :: .blk (W.heap.size + 1) (.cells #[.pointer (some ⟨rb, 2, none⟩), .pointer (some ⟨rb, 3, none⟩)] 52 (0, 0)) :: .blk W.heap.size (.cells (wayC Y.nf Y.nw Y.nl Y.ne Y.q) 58 (0, 0)) :: T) := HS.out
        have hln := Y.steps_len [2, 3] s ns
        have h0 : (Y.steps [2, 3] s ns).2.getD 0 0 = 8 := (Y.steps_zero [2, 3] s ns (by decide)).trans HK.out
        obtain ⟨k0, -⟩ := sit_cell (i := 0) hSit.hd (cs26_at (by rw [hln, HX.out.1]; decide))
        rw [h0] at k0
        have HT := Aside0.mk hSit
        clear hSit h0
        clear hln
        go_wp2
        go_ret
        exact ⟨rfl, HT.out.hd2.tail.hd2.tail⟩

set_option maxRecDepth 100000 in
set_option maxHeartbeats 16000000 in
theorem fields_9 {w0 : World} (Y : Way w0) {W : World} {T : List Thing} {rb : Nat} {s : Y.σ} {ns : List Int} {v : Value} (h : Sit w0 W (Y.H s ++ .blk rb (.cells (cs26 ns v) 26 (0, 0)) :: T)) (hn : ns.length = 9) (hk : ns.getD 0 0 = 9) (hr : ∀ x ∈ ns, Y.inr x) (hok : Y.ok 6 s) :
    Calls Try.prog 24 #[.pointer (some ⟨rb, 0, none⟩), .agg (wayC Y.nf Y.nw Y.nl Y.ne Y.q)] W fun e' w' => e' = .returned (.bool true) ∧ Sit w0 w' (Y.H (Y.steps [6] s ns).1 ++ .blk rb (.cells (cs26 (Y.steps [6] s ns).2 v) 26 (0, 0)) :: T) := by
  have hA := (h.alloc (wayC Y.nf Y.nw Y.nl Y.ne Y.q) 58).ins
  have hB := (hA.alloc #[.pointer (some ⟨rb, 6, none⟩)] 52).ins
  rw [show ((W.alloc (.cells (wayC Y.nf Y.nw Y.nl Y.ne Y.q) 58))).heap.size = W.heap.size + 1 by simp [World.drew]] at hB
  have hSt : Sit w0 ((W.alloc (.cells (wayC Y.nf Y.nw Y.nl Y.ne Y.q) 58)).alloc (.cells #[.pointer (some ⟨rb, 6, none⟩)] 52)) (Y.H (Y.steps (List.take 0 [6]) s ns).1 ++ .blk rb (.cells (cs26 (Y.steps (List.take 0 [6]) s ns).2 v) 26 (0, 0)) :: .blk (W.heap.size + 1) (.cells #[.pointer (some ⟨rb, 6, none⟩)] 52 (0, 0)) :: .blk W.heap.size (.cells (wayC Y.nf Y.nw Y.nl Y.ne Y.q) 58 (0, 0)) :: T) := hB
  have HB := Aside0.mk hSt
  obtain ⟨k0, -⟩ := sit_cell (i := 0) hA.hd (cs26_at (by omega))
  rw [hk] at k0
  have HK := Aside0.mk hk
  have HX := Aside0.mk (And.intro hn (And.intro hr hok))
  
  clear h hA hB hSt hn hr hok hk
  go_enter Try.func24, Try.ntmps24
  go_wp2
  obtain ⟨W2, hW2⟩ : ∃ W2 : World, W2 = (W.alloc (.cells (wayC Y.nf Y.nw Y.nl Y.ne Y.q) 58)).alloc (.cells #[.pointer (some ⟨rb, 6, none⟩)] 52) := ⟨_, rfl⟩
  rw [← hW2] at HB
  show Code.wp _ _ _ _ ((W.alloc (.cells (wayC Y.nf Y.nw Y.nl Y.ne Y.q) 58)).alloc (.cells #[.pointer (some ⟨rb, 6, none⟩)] 52))
  rw [← hW2]
  clear hW2 k0
  go_loopg [100] (1 + 1) (fun kq v100 w' => ∃ (I : Int) (j : Nat), v100 = .int .i64 I ∧ Aside0 (I = (j : Int) ∧ kq + j = 1 + 1 ∧ j ≤ 1) ∧ Aside0 (Sit w0 w' (Y.H (Y.steps (List.take j [6]) s ns).1 ++ .blk rb (.cells (cs26 (Y.steps (List.take j [6]) s ns).2 v) 26 (0, 0)) :: .blk (W.heap.size + 1) (.cells #[.pointer (some ⟨rb, 6, none⟩)] 52 (0, 0)) :: .blk W.heap.size (.cells (wayC Y.nf Y.nw Y.nl Y.ne Y.q) 58 (0, 0)) :: T)))
  case atStart => exact ⟨0, 0, rfl, ⟨⟨rfl, rfl, Nat.zero_le _⟩⟩, HB⟩
  case round =>
    clear HB
    obtain ⟨I, j, rfl, HA, HS⟩ := hrel
    cases gk with
    | zero => exact absurd HA.out.2 (by omega)
    | succ k1 =>
      by_cases hi : I < 1
      · have p1 : decide (I < 1) = true := decide_eq_true hi
        have p2 : (0 ≤ I) = True := eq_true (by have := HA.out.1; omega)
        have p3 : (I < 1) = True := eq_true hi
        have hw9 : Aside0 (wrap64 (I + 1) = ((j + 1 : Nat) : Int)) := ⟨by have h3 := HA.out.1; unfold wrap64; omega⟩
        have hj : j < ([6] : List Nat).length := by have h3 := HA.out.1; simp; omega
        obtain ⟨i, hi2⟩ : ∃ i, i = ([6] : List Nat)[j] := ⟨_, rfl⟩
        have hi9 : i < 9 := by have : ∀ i ∈ ([6] : List Nat), i < 9 := by decide
                               exact hi2 ▸ this _ (List.getElem_mem hj)
        have hsuc := Y.steps_succ s ns hj
        rw [← hi2] at hsuc
        have hln := Y.steps_len (List.take j [6]) s ns
        have hok := Y.steps_ok (List.take j [6]) (k := (6 - j - 1) + 1) (s := s) (ns := ns) (fun x hx => by
          have : ∀ i ∈ ([6] : List Nat), i < 9 := by decide
          have := this x (List.mem_of_mem_take hx)
          rw [HX.out.1]; exact this) (by
          have e : 6 - j - 1 + 1 + (List.take j [6]).length = 6 := by rw [List.length_take]; simp at hj ⊢; omega
          rw [e]; exact HX.out.2.2) HX.out.2.1
        have hSit := HS.out
        obtain ⟨p, hp⟩ : ∃ p, p = Y.steps (List.take j [6]) s ns := ⟨_, rfl⟩
        rw [← hp] at hsuc hln hok hSit
        have hat := cs26_at (v := v) (show i < p.2.length by rw [hln, HX.out.1]; exact hi9)
        obtain ⟨pc, -⟩ := sit_cell (i := I.toNat) (v := .pointer (some ⟨rb, i, none⟩)) hSit.hd2 (by
          have e : I.toNat = j := by have := HA.out.1; omega
          rw [e, hi2]
          match j, hj with
          | 0, _ => rfl)
        obtain ⟨wc, -⟩ := sit_cell (i := 0) (v := .func (.func Y.nf) #[.pointer (some ⟨Y.q, 0, none⟩)] #[]) hSit.hd2.tail.hd2 rfl
        have PN := Aside0.mk (Y.cnum hok.1 (hok.2 _ (by simp [hln, HX.out.1, hi9])) hat hSit)
        have HQ : Aside0 (Y.steps (List.take (j + 1) [6]) s ns = Y.step p i ∧ i < p.2.length) := ⟨hsuc, by rw [hln, HX.out.1]; exact hi9⟩
        clear hi hj hi2 hi9 hsuc hln hok hSit hp hat
        go_wp2_with (refine PN.out.mono ?_; rintro e' w1 ⟨rfl, hs⟩; have H1 := Aside0.mk hs; clear hs)
        go_roundg k1
        case measure => omega
        case rel => exact ⟨_, j + 1, rfl, ⟨hw9.out, by have h1 := HA.out; omega, by have h1 := HA.out; have h2 := of_eq_true p3; omega⟩, ⟨by
          rw [HQ.out.1]
          have h1 := H1.out
          rw [cs26_set HQ.out.2] at h1
          exact h1⟩⟩
      · have p1 : decide (I < 1) = false := decide_eq_false hi
        have hjn : j = 1 := by have := HA.out; omega
        subst hjn
        have hSit : Sit w0 wr (Y.H (Y.steps [6] s ns).1 ++ .blk rb (.cells (cs26 (Y.steps [6] s ns).2 v) 26 (0, 0)) :: .blk (W.heap.size + 1) (.cells #[.pointer (some ⟨rb, 6, none⟩)] 52 (0, 0)) :: .blk W.heap.size (.cells (wayC Y.nf Y.nw Y.nl Y.ne Y.q) 58 (0, 0)) :: T) := HS.out
        have hln := Y.steps_len [6] s ns
        have h0 : (Y.steps [6] s ns).2.getD 0 0 = 9 := (Y.steps_zero [6] s ns (by decide)).trans HK.out
        obtain ⟨k0, -⟩ := sit_cell (i := 0) hSit.hd (cs26_at (by rw [hln, HX.out.1]; decide))
        rw [h0] at k0
        have HT := Aside0.mk hSit
        clear hSit h0
        clear hln
        go_wp2
        go_ret
        exact ⟨rfl, HT.out.hd2.tail.hd2.tail⟩

set_option maxRecDepth 100000 in
set_option maxHeartbeats 16000000 in
theorem fields_10 {w0 : World} (Y : Way w0) {W : World} {T : List Thing} {rb : Nat} {s : Y.σ} {ns : List Int} {v : Value} (h : Sit w0 W (Y.H s ++ .blk rb (.cells (cs26 ns v) 26 (0, 0)) :: T)) (hn : ns.length = 9) (hk : ns.getD 0 0 = 10) (hr : ∀ x ∈ ns, Y.inr x) (hok : Y.ok 6 s) :
    Calls Try.prog 24 #[.pointer (some ⟨rb, 0, none⟩), .agg (wayC Y.nf Y.nw Y.nl Y.ne Y.q)] W fun e' w' => e' = .returned (.bool true) ∧ Sit w0 w' (Y.H (Y.steps [8] s ns).1 ++ .blk rb (.cells (cs26 (Y.steps [8] s ns).2 v) 26 (0, 0)) :: T) := by
  have hA := (h.alloc (wayC Y.nf Y.nw Y.nl Y.ne Y.q) 58).ins
  have hB := (hA.alloc #[.pointer (some ⟨rb, 8, none⟩)] 52).ins
  rw [show ((W.alloc (.cells (wayC Y.nf Y.nw Y.nl Y.ne Y.q) 58))).heap.size = W.heap.size + 1 by simp [World.drew]] at hB
  have hSt : Sit w0 ((W.alloc (.cells (wayC Y.nf Y.nw Y.nl Y.ne Y.q) 58)).alloc (.cells #[.pointer (some ⟨rb, 8, none⟩)] 52)) (Y.H (Y.steps (List.take 0 [8]) s ns).1 ++ .blk rb (.cells (cs26 (Y.steps (List.take 0 [8]) s ns).2 v) 26 (0, 0)) :: .blk (W.heap.size + 1) (.cells #[.pointer (some ⟨rb, 8, none⟩)] 52 (0, 0)) :: .blk W.heap.size (.cells (wayC Y.nf Y.nw Y.nl Y.ne Y.q) 58 (0, 0)) :: T) := hB
  have HB := Aside0.mk hSt
  obtain ⟨k0, -⟩ := sit_cell (i := 0) hA.hd (cs26_at (by omega))
  rw [hk] at k0
  have HK := Aside0.mk hk
  have HX := Aside0.mk (And.intro hn (And.intro hr hok))
  
  clear h hA hB hSt hn hr hok hk
  go_enter Try.func24, Try.ntmps24
  go_wp2
  obtain ⟨W2, hW2⟩ : ∃ W2 : World, W2 = (W.alloc (.cells (wayC Y.nf Y.nw Y.nl Y.ne Y.q) 58)).alloc (.cells #[.pointer (some ⟨rb, 8, none⟩)] 52) := ⟨_, rfl⟩
  rw [← hW2] at HB
  show Code.wp _ _ _ _ ((W.alloc (.cells (wayC Y.nf Y.nw Y.nl Y.ne Y.q) 58)).alloc (.cells #[.pointer (some ⟨rb, 8, none⟩)] 52))
  rw [← hW2]
  clear hW2 k0
  go_loopg [100] (1 + 1) (fun kq v100 w' => ∃ (I : Int) (j : Nat), v100 = .int .i64 I ∧ Aside0 (I = (j : Int) ∧ kq + j = 1 + 1 ∧ j ≤ 1) ∧ Aside0 (Sit w0 w' (Y.H (Y.steps (List.take j [8]) s ns).1 ++ .blk rb (.cells (cs26 (Y.steps (List.take j [8]) s ns).2 v) 26 (0, 0)) :: .blk (W.heap.size + 1) (.cells #[.pointer (some ⟨rb, 8, none⟩)] 52 (0, 0)) :: .blk W.heap.size (.cells (wayC Y.nf Y.nw Y.nl Y.ne Y.q) 58 (0, 0)) :: T)))
  case atStart => exact ⟨0, 0, rfl, ⟨⟨rfl, rfl, Nat.zero_le _⟩⟩, HB⟩
  case round =>
    clear HB
    obtain ⟨I, j, rfl, HA, HS⟩ := hrel
    cases gk with
    | zero => exact absurd HA.out.2 (by omega)
    | succ k1 =>
      by_cases hi : I < 1
      · have p1 : decide (I < 1) = true := decide_eq_true hi
        have p2 : (0 ≤ I) = True := eq_true (by have := HA.out.1; omega)
        have p3 : (I < 1) = True := eq_true hi
        have hw9 : Aside0 (wrap64 (I + 1) = ((j + 1 : Nat) : Int)) := ⟨by have h3 := HA.out.1; unfold wrap64; omega⟩
        have hj : j < ([8] : List Nat).length := by have h3 := HA.out.1; simp; omega
        obtain ⟨i, hi2⟩ : ∃ i, i = ([8] : List Nat)[j] := ⟨_, rfl⟩
        have hi9 : i < 9 := by have : ∀ i ∈ ([8] : List Nat), i < 9 := by decide
                               exact hi2 ▸ this _ (List.getElem_mem hj)
        have hsuc := Y.steps_succ s ns hj
        rw [← hi2] at hsuc
        have hln := Y.steps_len (List.take j [8]) s ns
        have hok := Y.steps_ok (List.take j [8]) (k := (6 - j - 1) + 1) (s := s) (ns := ns) (fun x hx => by
          have : ∀ i ∈ ([8] : List Nat), i < 9 := by decide
          have := this x (List.mem_of_mem_take hx)
          rw [HX.out.1]; exact this) (by
          have e : 6 - j - 1 + 1 + (List.take j [8]).length = 6 := by rw [List.length_take]; simp at hj ⊢; omega
          rw [e]; exact HX.out.2.2) HX.out.2.1
        have hSit := HS.out
        obtain ⟨p, hp⟩ : ∃ p, p = Y.steps (List.take j [8]) s ns := ⟨_, rfl⟩
        rw [← hp] at hsuc hln hok hSit
        have hat := cs26_at (v := v) (show i < p.2.length by rw [hln, HX.out.1]; exact hi9)
        obtain ⟨pc, -⟩ := sit_cell (i := I.toNat) (v := .pointer (some ⟨rb, i, none⟩)) hSit.hd2 (by
          have e : I.toNat = j := by have := HA.out.1; omega
          rw [e, hi2]
          match j, hj with
          | 0, _ => rfl)
        obtain ⟨wc, -⟩ := sit_cell (i := 0) (v := .func (.func Y.nf) #[.pointer (some ⟨Y.q, 0, none⟩)] #[]) hSit.hd2.tail.hd2 rfl
        have PN := Aside0.mk (Y.cnum hok.1 (hok.2 _ (by simp [hln, HX.out.1, hi9])) hat hSit)
        have HQ : Aside0 (Y.steps (List.take (j + 1) [8]) s ns = Y.step p i ∧ i < p.2.length) := ⟨hsuc, by rw [hln, HX.out.1]; exact hi9⟩
        clear hi hj hi2 hi9 hsuc hln hok hSit hp hat
        go_wp2_with (refine PN.out.mono ?_; rintro e' w1 ⟨rfl, hs⟩; have H1 := Aside0.mk hs; clear hs)
        go_roundg k1
        case measure => omega
        case rel => exact ⟨_, j + 1, rfl, ⟨hw9.out, by have h1 := HA.out; omega, by have h1 := HA.out; have h2 := of_eq_true p3; omega⟩, ⟨by
          rw [HQ.out.1]
          have h1 := H1.out
          rw [cs26_set HQ.out.2] at h1
          exact h1⟩⟩
      · have p1 : decide (I < 1) = false := decide_eq_false hi
        have hjn : j = 1 := by have := HA.out; omega
        subst hjn
        have hSit : Sit w0 wr (Y.H (Y.steps [8] s ns).1 ++ .blk rb (.cells (cs26 (Y.steps [8] s ns).2 v) 26 (0, 0)) :: .blk (W.heap.size + 1) (.cells #[.pointer (some ⟨rb, 8, none⟩)] 52 (0, 0)) :: .blk W.heap.size (.cells (wayC Y.nf Y.nw Y.nl Y.ne Y.q) 58 (0, 0)) :: T) := HS.out
        have hln := Y.steps_len [8] s ns
        have h0 : (Y.steps [8] s ns).2.getD 0 0 = 10 := (Y.steps_zero [8] s ns (by decide)).trans HK.out
        obtain ⟨k0, -⟩ := sit_cell (i := 0) hSit.hd (cs26_at (by rw [hln, HX.out.1]; decide))
        rw [h0] at k0
        have HT := Aside0.mk hSit
        clear hSit h0
        clear hln
        go_wp2
        go_ret
        exact ⟨rfl, HT.out.hd2.tail.hd2.tail⟩
end Go.Proofs.Ytgdelfckhcgnhaa.Code
