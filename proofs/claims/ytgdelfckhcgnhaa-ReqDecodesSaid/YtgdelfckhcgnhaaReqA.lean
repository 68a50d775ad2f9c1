/- req: a writer's method num, and whole. No conditions beside those that each contract states. -/
import Derived.Test.YtgdelfckhcgnhaaCodeA
import Derived.Deep.RegionWith
import Derived.Test.YtgdelfckhcgnhaaPaq
import Derived.Laws.EntriesVeiled
namespace Go.Proofs.Ytgdelfckhcgnhaa.Code
open Go.RowKit Go.Proofs.Ytgdelfckhcgnhaa.Pa Go.Proofs.YtgdelfckhcgnhaaW.PrintWords Go.Proofs.YtgdelfckhcgnhaaW.PrintLast Go.Proofs.YtgdelfckhcgnhaaW.PrintMore
set_option linter.unusedVariables false
set_option linter.unusedSimpArgs false
variable {ob : Bool}

theorem Out.odd_cell {w : World} {q : Nat} {F : Nat → Prop} {bs : List Int} (h : Out ob w q F bs) : w.cell? ⟨q, 1, none⟩ = some (.bool ob) ∧ w.frozen? ⟨q, 1, none⟩ = false := by
  obtain ⟨A, cap, h1, -⟩ := h
  exact ⟨(blk_cell h1 1).trans rfl, blk_frozen h1 1⟩
theorem sit_oddc {w0 W : World} {T : List Thing} {q : Nat} {bs : List Int} (h : Sit w0 W (.out ob q bs :: T)) : W.cell? ⟨q, 1, none⟩ = some (.bool ob) ∧ W.frozen? ⟨q, 1, none⟩ = false := by
  obtain ⟨hb, F, h1, -⟩ := h
  exact Out.odd_cell h1
theorem sit_cell {w0 W : World} {T : List Thing} {b i : Nat} {cs : Array Value} {e : TypeId} {v : Value} (h : Sit w0 W (.blk b (.cells cs e (0, 0)) :: T)) (hi : cs[i]? = some v) : W.cell? ⟨b, i, none⟩ = some v ∧ W.frozen? ⟨b, i, none⟩ = false := by
  have h1 := h.blk.1
  exact ⟨(blk_cell h1 i).trans hi, blk_frozen h1 i⟩

set_option maxRecDepth 100000 in
set_option maxHeartbeats 4000000 in
theorem wnum {w0 W : World} {T : List Thing} {q b i : Nat} {bs : List Int} {cs : Array Value} {e : TypeId} {x : Int} (h : Sit w0 W (.out ob q bs :: .blk b (.cells cs e (0, 0)) :: T)) (hi : cs[i]? = some (.int .i64 x)) (hx : x < 9223372036854775808) (hl : bs.length ≤ 1099511627776) :
    Calls Try.prog 29 #[.pointer (some ⟨q, 0, none⟩), .pointer (some ⟨b, i, none⟩)] W fun e' w' => e' = .returned (.tuple #[]) ∧ Sit w0 w' (.out (decide (x < 0) || ob) q (if x < 0 then bs else bs ++ digs x.toNat) :: .blk b (.cells (cs.setIfInBounds i (.int .i64 0)) e (0, 0)) :: T) := by
  have HS := Aside0.mk h
  have HI := Aside0.mk hi
  have HX := Aside0.mk (And.intro hx hl)
  obtain ⟨n0, nf0⟩ := sit_cell h.swap hi
  have pn := fun (W' : World) (h' : Sit w0 W' (.out ob q bs :: .blk b (.cells cs e (0, 0)) :: T)) => sit_num x h' hx hl
  by_cases c : x < 0
  · simp only [if_pos c] at pn ⊢
    rw [decide_eq_true c, Bool.true_or]
    have PN := Aside0.mk pn
    clear h hi hx hl pn c
    go_enter Try.func29, Try.ntmps29
    go_wp2
    obtain ⟨o0, of0⟩ := sit_oddc HS.out
    refine start_ (n := 18) (S := fun w' => w'.cell? ⟨b, i, none⟩ = some (.int .i64 x) ∧ w'.cell? ⟨q, 1, none⟩ = some (.bool ob)) (ds := [17]) #[false, false, false, false, false, false, false, false, false, false, false, false, false, false, false, false, false, false] (by kernel_rfl) rfl rfl ⟨n0, o0⟩ (fun hHeld => ?_)
    have HSd := Aside0.mk HS.out.drew
    generalize W.drew = Wd at HSd hHeld ⊢
    refine pure_ (i := 0) (N := some 4) (v := ?_) (a' := ?_) #[true, false, false, false, false, false, false, false, false, false, false, false, false, false, false, false, false, false] rfl rfl (by kernel_rfl) (fun _ _ _ h => h) (Or.inl ⟨by rfl, ?_⟩) ?_ ?_
    rotate_left
    · intro w'
      go_simp
      with_reducible rfl
    rotate_left
    · simp only [Act.put, List.setIfInBounds_toArray, List.set_cons_zero, List.set_cons_succ, i64_w, i32_w]
      rfl
    refine pure_ (i := 1) (N := some 5) (v := ?_) (a' := ?_) #[true, true, false, false, false, false, false, false, false, false, false, false, false, false, false, false, false, false] rfl rfl (by kernel_rfl) (fun _ _ _ h => h) (Or.inl ⟨by rfl, ?_⟩) ?_ ?_
    rotate_left
    · intro w'
      go_simp
      with_reducible rfl
    rotate_left
    · simp only [Act.put, List.setIfInBounds_toArray, List.set_cons_zero, List.set_cons_succ, i64_w, i32_w]
      rfl
    refine pure_ (i := 2) (N := some 6) (v := ?_) (a' := ?_) #[true, true, true, false, false, false, false, false, false, false, false, false, false, false, false, false, false, false] rfl rfl (by kernel_rfl) (fun _ _ _ h => h) (Or.inl ⟨by rfl, ?_⟩) ?_ ?_
    rotate_left
    · intro w'
      go_simp
      with_reducible rfl
    rotate_left
    · simp only [Act.put, List.setIfInBounds_toArray, List.set_cons_zero, List.set_cons_succ, i64_w, i32_w]
      rfl
    refine pure_ (i := 3) (N := some 7) (v := ?_) (a' := ?_) #[true, true, true, true, false, false, false, false, false, false, false, false, false, false, false, false, false, false] rfl rfl (by kernel_rfl) (fun _ _ _ h => h) (Or.inl ⟨by rfl, ?_⟩) ?_ ?_
    rotate_left
    · intro w'
      go_simp
      with_reducible rfl
    rotate_left
    · simp only [Act.put, List.setIfInBounds_toArray, List.set_cons_zero, List.set_cons_succ, i64_w, i32_w]
      rfl
    refine pure_ (i := 4) (N := some 8) (v := ?_) (a' := ?_) #[true, true, true, true, true, false, false, false, false, false, false, false, false, false, false, false, false, false] rfl rfl (by kernel_rfl) (fun _ _ _ h => h) (Or.inl ⟨by rfl, ?_⟩) ?_ ?_
    rotate_left
    · intro w'
      go_simp
      with_reducible rfl
    rotate_left
    · simp only [Act.put, List.setIfInBounds_toArray, List.set_cons_zero, List.set_cons_succ, i64_w, i32_w]
      rfl
    refine pure_ (i := 5) (N := some 9) (v := ?_) (a' := ?_) #[true, true, true, true, true, true, false, false, false, false, false, false, false, false, false, false, false, false] rfl rfl (by kernel_rfl) (fun _ _ _ h => h) (Or.inl ⟨by rfl, ?_⟩) ?_ ?_
    rotate_left
    · intro w'
      go_simp
      with_reducible rfl
    rotate_left
    · simp only [Act.put, List.setIfInBounds_toArray, List.set_cons_zero, List.set_cons_succ, i64_w, i32_w]
      rfl
    refine take_ (i := 6) (N := some 10) (v := ?_) (a' := ?_) #[true, true, true, true, true, true, true, false, false, false, false, false, false, false, false, false, false, false] rfl rfl (by kernel_rfl) (fun _ _ _ h => h) (Or.inl ⟨by rfl, ?_⟩) hHeld ?_ ?_
    rotate_left
    · rintro w' ⟨s0, s1⟩
      go_simp
      with_reducible rfl
    rotate_left
    · simp only [Act.put, List.setIfInBounds_toArray, List.set_cons_zero, List.set_cons_succ, i64_w, i32_w]
      rfl
    refine one_ (i := 7) (N := some 11) #[true, true, true, true, true, true, true, true, false, false, false, false, false, false, false, false, false, false] rfl rfl (by kernel_rfl) (by decide) (fun K hK => ?_)
    refine goes_ Try.func51 (by kernel_rfl) rfl #[.pointer (some ⟨q, 0, none⟩), .int .i64 x] (by rfl) rfl rfl (by (try simp only [List.map_toArray, List.map_cons, List.map_nil]); first | done | rfl) ?_
    refine (PN.out _ HSd.out).mono ?_
    rintro e' w1 ⟨rfl, hs⟩
    have HS1 := Aside0.mk hs
    obtain ⟨o1, of1⟩ := sit_oddc hs
    obtain ⟨m1, mf1⟩ := sit_cell hs.swap HI.out
    clear hs
    refine ⟨_, rfl, ?_⟩
    refine hK.out _ _ ⟨m1, o1⟩ (fun hHeld => ?_)
    clear hK K
    refine norm_ (a' := ?_) ?_ ?_
    rotate_left
    · show Act.put _ (some 11) _ = _
      simp only [Act.put, List.setIfInBounds_toArray, List.set_cons_zero, List.set_cons_succ]
      rfl
    refine pure_ (i := 8) (N := some 12) (v := ?_) (a' := ?_) #[true, true, true, true, true, true, true, true, true, false, false, false, false, false, false, false, false, false] rfl rfl (by kernel_rfl) (fun _ _ _ h => h) (Or.inl ⟨by rfl, ?_⟩) ?_ ?_
    rotate_left
    · intro w'
      go_simp
      with_reducible rfl
    rotate_left
    · simp only [Act.put, List.setIfInBounds_toArray, List.set_cons_zero, List.set_cons_succ, i64_w, i32_w]
      rfl
    refine pure_ (i := 9) (N := some 13) (v := ?_) (a' := ?_) #[true, true, true, true, true, true, true, true, true, true, false, false, false, false, false, false, false, false] rfl rfl (by kernel_rfl) (fun _ _ _ h => h) (Or.inl ⟨by rfl, ?_⟩) ?_ ?_
    rotate_left
    · intro w'
      go_simp
      with_reducible rfl
    rotate_left
    · simp only [Act.put, List.setIfInBounds_toArray, List.set_cons_zero, List.set_cons_succ, i64_w, i32_w]
      rfl
    refine pure_ (i := 10) (N := some 14) (v := undef) (a' := ?_) #[true, true, true, true, true, true, true, true, true, true, true, false, false, false, false, false, false, false] rfl rfl (by kernel_rfl) (fun _ _ _ h => h) (Or.inr ⟨by rfl, rfl⟩) ?_ ?_
    rotate_left
    · simp only [Act.put, List.setIfInBounds_toArray, List.set_cons_zero, List.set_cons_succ]
      rfl
    refine pure_ (i := 11) (N := some 15) (v := undef) (a' := ?_) #[true, true, true, true, true, true, true, true, true, true, true, true, false, false, false, false, false, false] rfl rfl (by kernel_rfl) (fun _ _ _ h => h) (Or.inr ⟨by rfl, rfl⟩) ?_ ?_
    rotate_left
    · simp only [Act.put, List.setIfInBounds_toArray, List.set_cons_zero, List.set_cons_succ]
      rfl
    refine pure_ (i := 12) (N := some 16) (v := undef) (a' := ?_) #[true, true, true, true, true, true, true, true, true, true, true, true, true, false, false, false, false, false] rfl rfl (by kernel_rfl) (fun _ _ _ h => h) (Or.inr ⟨by rfl, rfl⟩) ?_ ?_
    rotate_left
    · simp only [Act.put, List.setIfInBounds_toArray, List.set_cons_zero, List.set_cons_succ]
      rfl
    refine pure_ (i := 13) (N := some 17) (v := undef) (a' := ?_) #[true, true, true, true, true, true, true, true, true, true, true, true, true, true, false, false, false, false] rfl rfl (by kernel_rfl) (fun _ _ _ h => h) (Or.inr ⟨by rfl, rfl⟩) ?_ ?_
    rotate_left
    · simp only [Act.put, List.setIfInBounds_toArray, List.set_cons_zero, List.set_cons_succ]
      rfl
    refine pure_ (i := 14) (N := some 18) (v := ?_) (a' := ?_) #[true, true, true, true, true, true, true, true, true, true, true, true, true, true, true, false, false, false] rfl rfl (by kernel_rfl) (fun _ _ _ h => h) (Or.inl ⟨by rfl, ?_⟩) ?_ ?_
    rotate_left
    · intro w'
      go_simp
      with_reducible rfl
    rotate_left
    · simp only [Act.put, List.setIfInBounds_toArray, List.set_cons_zero, List.set_cons_succ, i64_w, i32_w]
      rfl
    refine pure_ (i := 15) (N := some 19) (v := ?_) (a' := ?_) #[true, true, true, true, true, true, true, true, true, true, true, true, true, true, true, true, false, false] rfl rfl (by kernel_rfl) (fun _ _ _ h => h) (Or.inl ⟨by rfl, ?_⟩) ?_ ?_
    rotate_left
    · intro w'
      go_simp
      with_reducible rfl
    rotate_left
    · simp only [Act.put, List.setIfInBounds_toArray, List.set_cons_zero, List.set_cons_succ, i64_w, i32_w]
      rfl
    refine pure_ (i := 16) (N := some 20) (v := ?_) (a' := ?_) #[true, true, true, true, true, true, true, true, true, true, true, true, true, true, true, true, true, false] rfl rfl (by kernel_rfl) (fun _ _ _ h => h) (Or.inl ⟨by rfl, ?_⟩) ?_ ?_
    rotate_left
    · intro w'
      go_simp
      with_reducible rfl
    rotate_left
    · simp only [Act.put, List.setIfInBounds_toArray, List.set_cons_zero, List.set_cons_succ, i64_w, i32_w]
      rfl
    refine last_ (i := 17) (N := none) #[true, true, true, true, true, true, true, true, true, true, true, true, true, true, true, true, true, true] rfl rfl (by kernel_rfl) (by decide) (fun K hK => ?_)
    skip
    refine skip_ (w1 := ?_) (by rfl) rfl ?_ ?_
    rotate_left
    · go_simp
      rfl
    refine hK.out _ _ ?_
    clear hK K
    refine done_ (by kernel_rfl) ?_
    have HS2 := Aside0.mk (sit_odd true HS1.out)
    obtain ⟨m0, mf0⟩ := sit_cell HS2.out.swap HI.out
    go_wp2
    go_end0
    exact ⟨rfl, (HS2.out.swap.set i (.int .i64 0)).swap⟩
  · simp only [if_neg c] at pn ⊢
    rw [decide_eq_false c, Bool.false_or]
    have PN := Aside0.mk pn
    clear h hi hx hl pn c
    go_enter Try.func29, Try.ntmps29
    go_wp2
    obtain ⟨o0, of0⟩ := sit_oddc HS.out
    refine start_ (n := 18) (S := fun w' => w'.cell? ⟨b, i, none⟩ = some (.int .i64 x) ∧ w'.cell? ⟨q, 1, none⟩ = some (.bool ob)) (ds := [17]) #[false, false, false, false, false, false, false, false, false, false, false, false, false, false, false, false, false, false] (by kernel_rfl) rfl rfl ⟨n0, o0⟩ (fun hHeld => ?_)
    have HSd := Aside0.mk HS.out.drew
    generalize W.drew = Wd at HSd hHeld ⊢
    refine pure_ (i := 0) (N := some 4) (v := ?_) (a' := ?_) #[true, false, false, false, false, false, false, false, false, false, false, false, false, false, false, false, false, false] rfl rfl (by kernel_rfl) (fun _ _ _ h => h) (Or.inl ⟨by rfl, ?_⟩) ?_ ?_
    rotate_left
    · intro w'
      go_simp
      with_reducible rfl
    rotate_left
    · simp only [Act.put, List.setIfInBounds_toArray, List.set_cons_zero, List.set_cons_succ, i64_w, i32_w]
      rfl
    refine pure_ (i := 1) (N := some 5) (v := ?_) (a' := ?_) #[true, true, false, false, false, false, false, false, false, false, false, false, false, false, false, false, false, false] rfl rfl (by kernel_rfl) (fun _ _ _ h => h) (Or.inl ⟨by rfl, ?_⟩) ?_ ?_
    rotate_left
    · intro w'
      go_simp
      with_reducible rfl
    rotate_left
    · simp only [Act.put, List.setIfInBounds_toArray, List.set_cons_zero, List.set_cons_succ, i64_w, i32_w]
      rfl
    refine pure_ (i := 2) (N := some 6) (v := ?_) (a' := ?_) #[true, true, true, false, false, false, false, false, false, false, false, false, false, false, false, false, false, false] rfl rfl (by kernel_rfl) (fun _ _ _ h => h) (Or.inl ⟨by rfl, ?_⟩) ?_ ?_
    rotate_left
    · intro w'
      go_simp
      with_reducible rfl
    rotate_left
    · simp only [Act.put, List.setIfInBounds_toArray, List.set_cons_zero, List.set_cons_succ, i64_w, i32_w]
      rfl
    refine pure_ (i := 3) (N := some 7) (v := ?_) (a' := ?_) #[true, true, true, true, false, false, false, false, false, false, false, false, false, false, false, false, false, false] rfl rfl (by kernel_rfl) (fun _ _ _ h => h) (Or.inl ⟨by rfl, ?_⟩) ?_ ?_
    rotate_left
    · intro w'
      go_simp
      with_reducible rfl
    rotate_left
    · simp only [Act.put, List.setIfInBounds_toArray, List.set_cons_zero, List.set_cons_succ, i64_w, i32_w]
      rfl
    refine pure_ (i := 4) (N := some 8) (v := ?_) (a' := ?_) #[true, true, true, true, true, false, false, false, false, false, false, false, false, false, false, false, false, false] rfl rfl (by kernel_rfl) (fun _ _ _ h => h) (Or.inl ⟨by rfl, ?_⟩) ?_ ?_
    rotate_left
    · intro w'
      go_simp
      with_reducible rfl
    rotate_left
    · simp only [Act.put, List.setIfInBounds_toArray, List.set_cons_zero, List.set_cons_succ, i64_w, i32_w]
      rfl
    refine pure_ (i := 5) (N := some 9) (v := ?_) (a' := ?_) #[true, true, true, true, true, true, false, false, false, false, false, false, false, false, false, false, false, false] rfl rfl (by kernel_rfl) (fun _ _ _ h => h) (Or.inl ⟨by rfl, ?_⟩) ?_ ?_
    rotate_left
    · intro w'
      go_simp
      with_reducible rfl
    rotate_left
    · simp only [Act.put, List.setIfInBounds_toArray, List.set_cons_zero, List.set_cons_succ, i64_w, i32_w]
      rfl
    refine take_ (i := 6) (N := some 10) (v := ?_) (a' := ?_) #[true, true, true, true, true, true, true, false, false, false, false, false, false, false, false, false, false, false] rfl rfl (by kernel_rfl) (fun _ _ _ h => h) (Or.inl ⟨by rfl, ?_⟩) hHeld ?_ ?_
    rotate_left
    · rintro w' ⟨s0, s1⟩
      go_simp
      with_reducible rfl
    rotate_left
    · simp only [Act.put, List.setIfInBounds_toArray, List.set_cons_zero, List.set_cons_succ, i64_w, i32_w]
      rfl
    refine one_ (i := 7) (N := some 11) #[true, true, true, true, true, true, true, true, false, false, false, false, false, false, false, false, false, false] rfl rfl (by kernel_rfl) (by decide) (fun K hK => ?_)
    refine goes_ Try.func51 (by kernel_rfl) rfl #[.pointer (some ⟨q, 0, none⟩), .int .i64 x] (by rfl) rfl rfl (by (try simp only [List.map_toArray, List.map_cons, List.map_nil]); first | done | rfl) ?_
    refine (PN.out _ HSd.out).mono ?_
    rintro e' w1 ⟨rfl, hs⟩
    have HS1 := Aside0.mk hs
    obtain ⟨o1, of1⟩ := sit_oddc hs
    obtain ⟨m1, mf1⟩ := sit_cell hs.swap HI.out
    clear hs
    refine ⟨_, rfl, ?_⟩
    refine hK.out _ _ ⟨m1, o1⟩ (fun hHeld => ?_)
    clear hK K
    refine norm_ (a' := ?_) ?_ ?_
    rotate_left
    · show Act.put _ (some 11) _ = _
      simp only [Act.put, List.setIfInBounds_toArray, List.set_cons_zero, List.set_cons_succ]
      rfl
    refine pure_ (i := 8) (N := some 12) (v := ?_) (a' := ?_) #[true, true, true, true, true, true, true, true, true, false, false, false, false, false, false, false, false, false] rfl rfl (by kernel_rfl) (fun _ _ _ h => h) (Or.inl ⟨by rfl, ?_⟩) ?_ ?_
    rotate_left
    · intro w'
      go_simp
      with_reducible rfl
    rotate_left
    · simp only [Act.put, List.setIfInBounds_toArray, List.set_cons_zero, List.set_cons_succ, i64_w, i32_w]
      rfl
    refine pure_ (i := 9) (N := some 13) (v := ?_) (a' := ?_) #[true, true, true, true, true, true, true, true, true, true, false, false, false, false, false, false, false, false] rfl rfl (by kernel_rfl) (fun _ _ _ h => h) (Or.inl ⟨by rfl, ?_⟩) ?_ ?_
    rotate_left
    · intro w'
      go_simp
      with_reducible rfl
    rotate_left
    · simp only [Act.put, List.setIfInBounds_toArray, List.set_cons_zero, List.set_cons_succ, i64_w, i32_w]
      rfl
    refine pure_ (i := 10) (N := some 14) (v := ?_) (a' := ?_) #[true, true, true, true, true, true, true, true, true, true, true, false, false, false, false, false, false, false] rfl rfl (by kernel_rfl) (fun _ _ _ h => h) (Or.inl ⟨by rfl, ?_⟩) ?_ ?_
    rotate_left
    · intro w'
      go_simp
      with_reducible rfl
    rotate_left
    · simp only [Act.put, List.setIfInBounds_toArray, List.set_cons_zero, List.set_cons_succ, i64_w, i32_w]
      rfl
    refine pure_ (i := 11) (N := some 15) (v := ?_) (a' := ?_) #[true, true, true, true, true, true, true, true, true, true, true, true, false, false, false, false, false, false] rfl rfl (by kernel_rfl) (fun _ _ _ h => h) (Or.inl ⟨by rfl, ?_⟩) ?_ ?_
    rotate_left
    · intro w'
      go_simp
      with_reducible rfl
    rotate_left
    · simp only [Act.put, List.setIfInBounds_toArray, List.set_cons_zero, List.set_cons_succ, i64_w, i32_w]
      rfl
    refine pure_ (i := 12) (N := some 16) (v := ?_) (a' := ?_) #[true, true, true, true, true, true, true, true, true, true, true, true, true, false, false, false, false, false] rfl rfl (by kernel_rfl) (fun _ _ _ h => h) (Or.inl ⟨by rfl, ?_⟩) ?_ ?_
    rotate_left
    · intro w'
      go_simp
      with_reducible rfl
    rotate_left
    · simp only [Act.put, List.setIfInBounds_toArray, List.set_cons_zero, List.set_cons_succ, i64_w, i32_w]
      rfl
    refine take_ (i := 13) (N := some 17) (v := ?_) (a' := ?_) #[true, true, true, true, true, true, true, true, true, true, true, true, true, true, false, false, false, false] rfl rfl (by kernel_rfl) (fun _ _ _ h => h) (Or.inl ⟨by rfl, ?_⟩) hHeld ?_ ?_
    rotate_left
    · rintro w' ⟨s0, s1⟩
      go_simp
      with_reducible rfl
    rotate_left
    · simp only [Act.put, List.setIfInBounds_toArray, List.set_cons_zero, List.set_cons_succ, i64_w, i32_w]
      rfl
    refine pure_ (i := 14) (N := some 18) (v := ?_) (a' := ?_) #[true, true, true, true, true, true, true, true, true, true, true, true, true, true, true, false, false, false] rfl rfl (by kernel_rfl) (fun _ _ _ h => h) (Or.inl ⟨by rfl, ?_⟩) ?_ ?_
    rotate_left
    · intro w'
      go_simp
      with_reducible rfl
    rotate_left
    · simp only [Act.put, List.setIfInBounds_toArray, List.set_cons_zero, List.set_cons_succ, i64_w, i32_w]
      rfl
    refine pure_ (i := 15) (N := some 19) (v := ?_) (a' := ?_) #[true, true, true, true, true, true, true, true, true, true, true, true, true, true, true, true, false, false] rfl rfl (by kernel_rfl) (fun _ _ _ h => h) (Or.inl ⟨by rfl, ?_⟩) ?_ ?_
    rotate_left
    · intro w'
      go_simp
      with_reducible rfl
    rotate_left
    · simp only [Act.put, List.setIfInBounds_toArray, List.set_cons_zero, List.set_cons_succ, i64_w, i32_w]
      rfl
    refine pure_ (i := 16) (N := some 20) (v := ?_) (a' := ?_) #[true, true, true, true, true, true, true, true, true, true, true, true, true, true, true, true, true, false] rfl rfl (by kernel_rfl) (fun _ _ _ h => h) (Or.inl ⟨by rfl, ?_⟩) ?_ ?_
    rotate_left
    · intro w'
      go_simp
      with_reducible rfl
    rotate_left
    · simp only [Act.put, List.setIfInBounds_toArray, List.set_cons_zero, List.set_cons_succ, i64_w, i32_w]
      rfl
    refine last_ (i := 17) (N := none) #[true, true, true, true, true, true, true, true, true, true, true, true, true, true, true, true, true, true] rfl rfl (by kernel_rfl) (by decide) (fun K hK => ?_)
    skip
    refine skip_ (w1 := ?_) (by rfl) rfl ?_ ?_
    rotate_left
    · go_simp
      rfl
    refine hK.out _ _ ?_
    clear hK K
    refine done_ (by kernel_rfl) ?_
    have HS2 := Aside0.mk (sit_odd ob HS1.out)
    obtain ⟨m0, mf0⟩ := sit_cell HS2.out.swap HI.out
    go_wp2
    go_end0
    exact ⟨rfl, (HS2.out.swap.set i (.int .i64 0)).swap⟩

set_option maxRecDepth 100000 in
set_option maxHeartbeats 4000000 in
theorem wwhole {w0 W : World} {T : List Thing} {q b i : Nat} {bs : List Int} {cs : Array Value} {e : TypeId} {x : Int} (h : Sit w0 W (.out ob q bs :: .blk b (.cells cs e (0, 0)) :: T)) (hi : cs[i]? = some (.int .i64 x)) (h0 : -9223372036854775808 ≤ x) (hx : x < 9223372036854775808) (hl : bs.length ≤ 1099511627776) :
    Calls Try.prog 52 #[.pointer (some ⟨q, 0, none⟩), .pointer (some ⟨b, i, none⟩)] W fun e' w' => e' = .returned (.tuple #[]) ∧ Sit w0 w' (.out ob q (bs ++ digs (zig x)) :: .blk b (.cells (cs.setIfInBounds i (.int .i64 0)) e (0, 0)) :: T) := by
  have HS := Aside0.mk h
  have HI := Aside0.mk hi
  obtain ⟨n0, nf0⟩ := sit_cell h.swap hi
  have pn := fun (W' : World) (h' : Sit w0 W' (.out ob q bs :: .blk b (.cells cs e (0, 0)) :: T)) => sit_int x h' h0 hx hl
  have PN := Aside0.mk pn
  clear h hi h0 hx hl pn
  go_enter Try.func52, Try.ntmps52
  go_wp2
  refine start_ (n := 7) (S := fun w' => w'.cell? ⟨b, i, none⟩ = some (.int .i64 x)) (ds := []) #[false, false, false, false, false, false, false] (by kernel_rfl) rfl rfl n0 (fun hHeld => ?_)
  have HSd := Aside0.mk HS.out.drew
  generalize W.drew = Wd at HSd hHeld ⊢
  refine pure_ (i := 0) (N := some 4) (v := ?_) (a' := ?_) #[true, false, false, false, false, false, false] rfl rfl (by kernel_rfl) (fun _ _ _ h => h) (Or.inl ⟨by rfl, ?_⟩) ?_ ?_
  rotate_left
  · intro w'
    go_simp
    with_reducible rfl
  rotate_left
  · simp only [Act.put, List.setIfInBounds_toArray, List.set_cons_zero, List.set_cons_succ, i64_w, i32_w]
    rfl
  refine pure_ (i := 1) (N := some 5) (v := ?_) (a' := ?_) #[true, true, false, false, false, false, false] rfl rfl (by kernel_rfl) (fun _ _ _ h => h) (Or.inl ⟨by rfl, ?_⟩) ?_ ?_
  rotate_left
  · intro w'
    go_simp
    with_reducible rfl
  rotate_left
  · simp only [Act.put, List.setIfInBounds_toArray, List.set_cons_zero, List.set_cons_succ, i64_w, i32_w]
    rfl
  refine pure_ (i := 2) (N := some 6) (v := ?_) (a' := ?_) #[true, true, true, false, false, false, false] rfl rfl (by kernel_rfl) (fun _ _ _ h => h) (Or.inl ⟨by rfl, ?_⟩) ?_ ?_
  rotate_left
  · intro w'
    go_simp
    with_reducible rfl
  rotate_left
  · simp only [Act.put, List.setIfInBounds_toArray, List.set_cons_zero, List.set_cons_succ, i64_w, i32_w]
    rfl
  refine pure_ (i := 3) (N := some 7) (v := ?_) (a' := ?_) #[true, true, true, true, false, false, false] rfl rfl (by kernel_rfl) (fun _ _ _ h => h) (Or.inl ⟨by rfl, ?_⟩) ?_ ?_
  rotate_left
  · intro w'
    go_simp
    with_reducible rfl
  rotate_left
  · simp only [Act.put, List.setIfInBounds_toArray, List.set_cons_zero, List.set_cons_succ, i64_w, i32_w]
    rfl
  refine pure_ (i := 4) (N := some 8) (v := ?_) (a' := ?_) #[true, true, true, true, true, false, false] rfl rfl (by kernel_rfl) (fun _ _ _ h => h) (Or.inl ⟨by rfl, ?_⟩) ?_ ?_
  rotate_left
  · intro w'
    go_simp
    with_reducible rfl
  rotate_left
  · simp only [Act.put, List.setIfInBounds_toArray, List.set_cons_zero, List.set_cons_succ, i64_w, i32_w]
    rfl
  refine take_ (i := 5) (N := some 9) (v := ?_) (a' := ?_) #[true, true, true, true, true, true, false] rfl rfl (by kernel_rfl) (fun _ _ _ h => h) (Or.inl ⟨by rfl, ?_⟩) hHeld ?_ ?_
  rotate_left
  · intro w' s0
    go_simp
    with_reducible rfl
  rotate_left
  · simp only [Act.put, List.setIfInBounds_toArray, List.set_cons_zero, List.set_cons_succ, i64_w, i32_w]
    rfl
  refine one_ (i := 6) (N := some 10) #[true, true, true, true, true, true, true] rfl rfl (by kernel_rfl) (by decide) (fun K hK => ?_)
  refine goes_ Try.func63 (by kernel_rfl) rfl #[.pointer (some ⟨q, 0, none⟩), .int .i64 x] (by rfl) rfl rfl (by (try simp only [List.map_toArray, List.map_cons, List.map_nil]); first | done | rfl) ?_
  refine (PN.out _ HSd.out).mono ?_
  rintro e' w1 ⟨rfl, hs⟩
  have HS1 := Aside0.mk hs
  obtain ⟨m1, mf1⟩ := sit_cell hs.swap HI.out
  clear hs
  refine ⟨_, rfl, ?_⟩
  refine hK.out _ _ m1 (fun hHeld => ?_)
  clear hK K
  refine norm_ (a' := ?_) ?_ ?_
  rotate_left
  · show Act.put _ (some 10) _ = _
    simp only [Act.put, List.setIfInBounds_toArray, List.set_cons_zero, List.set_cons_succ]
    rfl
  refine done_ (by kernel_rfl) ?_
  go_wp2
  go_end0
  exact ⟨rfl, (HS1.out.swap.set i (.int .i64 0)).swap⟩
end Go.Proofs.Ytgdelfckhcgnhaa.Code

namespace Go.Proofs.Ytgdelfckhcgnhaa.Code
open Go.RowKit Go.Proofs.Ytgdelfckhcgnhaa.Pa Go.Proofs.YtgdelfckhcgnhaaW.PrintWords Go.Proofs.YtgdelfckhcgnhaaW.PrintLast Go.Proofs.YtgdelfckhcgnhaaW.PrintMore
set_option linter.unusedVariables false
set_option linter.unusedSimpArgs false

theorem Sit.ne {w0 W : World} {T : List Thing} {a b : Nat} {oa ob : Obj} (h : Sit w0 W (.blk a oa :: .blk b ob :: T)) : a ≠ b := by
  obtain ⟨hb, F, h1, h2, F', h3, h4, h5⟩ := h
  intro e
  exact (h4 b ((h3.2 b).2 rfl)).2.2 (.inr ((h1.2 b).2 e.symm))
/-- A reader: where it reads, and its flag. -/
def rdr (g : Nat) (ob : Bool) : Obj := .cells #[.pointer (some ⟨g, 0, none⟩), .bool ob] 50 (0, 0)

set_option maxRecDepth 100000 in
set_option maxHeartbeats 4000000 in
theorem rnum {w0 W : World} {T : List Thing} {g r b i : Nat} {ob : Bool} {bs : List Int} {cs : Array Value} {e : TypeId} {x : Int} (h : Sit w0 W (.inn g bs :: .blk r (rdr g ob) :: .blk b (.cells cs e (0, 0)) :: T)) (hi : cs[i]? = some (.int .i64 x)) :
    Calls Try.prog 23 #[.pointer (some ⟨r, 0, none⟩), .pointer (some ⟨b, i, none⟩)] W fun e' w' => e' = .returned (.tuple #[]) ∧ Sit w0 w' (.inn g (getNum bs).left :: .blk r (rdr g (ob || (getNum bs).e != 0)) :: .blk b (.cells (cs.setIfInBounds i (.int .i64 (getNum bs).v)) e (0, 0)) :: T) := by
  have pn := sit_getnum h
  have HI := Aside0.mk hi
  obtain ⟨r0, -⟩ := sit_cell (cs := #[.pointer (some ⟨g, 0, none⟩), .bool ob]) (i := 0) h.swap rfl
  obtain ⟨L, hL⟩ : ∃ L, L = (getNum bs).left := ⟨_, rfl⟩
  obtain ⟨E, hE⟩ : ∃ E, E = (getNum bs).e := ⟨_, rfl⟩
  obtain ⟨V, hV⟩ : ∃ V, V = (getNum bs).v := ⟨_, rfl⟩
  rw [← hL, ← hE, ← hV] at pn ⊢
  clear h hi hL hE hV
  cases ob with
  | true =>
    go_enter Try.func23, Try.ntmps23
    go_wp2_with (go_at_call 47; refine pn.mono ?_; rintro e' w1 ⟨rfl, hs⟩; have HS := Aside0.mk hs; obtain ⟨r1, rf1⟩ := sit_cell (cs := #[.pointer (some ⟨g, 0, none⟩), .bool true]) (i := 1) hs.swap rfl; obtain ⟨b1, bf1⟩ := sit_cell hs.rot HI.out; have hne := hs.tail.ne; have hne2 := hne.symm; clear hs pn)
    go_end0
    exact ⟨rfl, (((HS.out.rot).set i (.int .i64 V)).rot.set 1 (.bool true)).rot⟩
  | false =>
    go_enter Try.func23, Try.ntmps23
    go_wp2_with (go_at_call 47; refine pn.mono ?_; rintro e' w1 ⟨rfl, hs⟩; have HS := Aside0.mk hs; obtain ⟨r1, rf1⟩ := sit_cell (cs := #[.pointer (some ⟨g, 0, none⟩), .bool false]) (i := 1) hs.swap rfl; obtain ⟨b1, bf1⟩ := sit_cell hs.rot HI.out; have hne := hs.tail.ne; have hne2 := hne.symm; clear hs pn)
    go_end0
    rw [Bool.false_or]
    exact ⟨rfl, (((HS.out.rot).set i (.int .i64 V)).rot.set 1 (.bool (E != 0))).rot⟩
set_option maxRecDepth 100000 in
set_option maxHeartbeats 4000000 in
theorem rwhole {w0 W : World} {T : List Thing} {g r b i : Nat} {ob : Bool} {bs : List Int} {cs : Array Value} {e : TypeId} {x : Int} (h : Sit w0 W (.inn g bs :: .blk r (rdr g ob) :: .blk b (.cells cs e (0, 0)) :: T)) (hi : cs[i]? = some (.int .i64 x)) :
    Calls Try.prog 48 #[.pointer (some ⟨r, 0, none⟩), .pointer (some ⟨b, i, none⟩)] W fun e' w' => e' = .returned (.tuple #[]) ∧ Sit w0 w' (.inn g (getInt bs).left :: .blk r (rdr g (ob || (getInt bs).e != 0)) :: .blk b (.cells (cs.setIfInBounds i (.int .i64 (getInt bs).v)) e (0, 0)) :: T) := by
  have pn := sit_getint h
  have HI := Aside0.mk hi
  obtain ⟨r0, -⟩ := sit_cell (cs := #[.pointer (some ⟨g, 0, none⟩), .bool ob]) (i := 0) h.swap rfl
  obtain ⟨L, hL⟩ : ∃ L, L = (getInt bs).left := ⟨_, rfl⟩
  obtain ⟨E, hE⟩ : ∃ E, E = (getInt bs).e := ⟨_, rfl⟩
  obtain ⟨V, hV⟩ : ∃ V, V = (getInt bs).v := ⟨_, rfl⟩
  rw [← hL, ← hE, ← hV] at pn ⊢
  clear h hi hL hE hV
  cases ob with
  | true =>
    go_enter Try.func48, Try.ntmps48
    go_wp2_with (go_at_call 60; refine pn.mono ?_; rintro e' w1 ⟨rfl, hs⟩; have HS := Aside0.mk hs; obtain ⟨r1, rf1⟩ := sit_cell (cs := #[.pointer (some ⟨g, 0, none⟩), .bool true]) (i := 1) hs.swap rfl; obtain ⟨b1, bf1⟩ := sit_cell hs.rot HI.out; have hne := hs.tail.ne; have hne2 := hne.symm; clear hs pn)
    go_end0
    exact ⟨rfl, (((HS.out.rot).set i (.int .i64 V)).rot.set 1 (.bool true)).rot⟩
  | false =>
    go_enter Try.func48, Try.ntmps48
    go_wp2_with (go_at_call 60; refine pn.mono ?_; rintro e' w1 ⟨rfl, hs⟩; have HS := Aside0.mk hs; obtain ⟨r1, rf1⟩ := sit_cell (cs := #[.pointer (some ⟨g, 0, none⟩), .bool false]) (i := 1) hs.swap rfl; obtain ⟨b1, bf1⟩ := sit_cell hs.rot HI.out; have hne := hs.tail.ne; have hne2 := hne.symm; clear hs pn)
    go_end0
    rw [Bool.false_or]
    exact ⟨rfl, (((HS.out.rot).set i (.int .i64 V)).rot.set 1 (.bool (E != 0))).rot⟩
end Go.Proofs.Ytgdelfckhcgnhaa.Code

namespace Go.Proofs.Ytgdelfckhcgnhaa.Code
open Go.RowKit Go.Proofs.Ytgdelfckhcgnhaa.Pa Go.Proofs.YtgdelfckhcgnhaaW.PrintWords Go.Proofs.YtgdelfckhcgnhaaW.PrintLast Go.Proofs.YtgdelfckhcgnhaaW.PrintMore
set_option linter.unusedVariables false
set_option linter.unusedSimpArgs false
variable {ob : Bool}

/-- What a number does to a flag and to bytes. -/
def putN (s : Bool × List Int) (x : Int) : Bool × List Int := (decide (x < 0) || s.1, if x < 0 then s.2 else s.2 ++ digs x.toNat)
theorem putN_len {s : Bool × List Int} {x : Int} (hx : x < 9223372036854775808) : (putN s x).2.length ≤ s.2.length + 10 := by
  unfold putN
  by_cases c : x < 0
  · simp only [if_pos c]; omega
  · simp only [if_neg c, List.length_append]
    have := digs_ten (n := x.toNat) (by omega)
    omega
def putLine (s : Bool × List Int) (y : S93) : Bool × List Int := putN (putN (putN s y.f0) y.f1) y.f2
theorem putLine_len {s : Bool × List Int} {y : S93} (h0 : y.f0 < 9223372036854775808) (h1 : y.f1 < 9223372036854775808) (h2 : y.f2 < 9223372036854775808) : (putLine s y).2.length ≤ s.2.length + 30 := by
  unfold putLine
  have a := putN_len (s := s) h0
  have b := putN_len (s := putN s y.f0) h1
  have c := putN_len (s := putN (putN s y.f0) y.f1) h2
  omega
def putLines (s : Bool × List Int) (L : List S93) : Bool × List Int := L.foldl putLine (putN (s.1 || decide (4 < L.length), s.2) (L.length : Int))
def linesTo (s : Bool × List Int) (L : List S93) (j : Nat) : Bool × List Int := (L.take j).foldl putLine (putN (s.1 || decide (4 < L.length), s.2) (L.length : Int))
theorem linesTo_zero (s : Bool × List Int) (L : List S93) : linesTo s L 0 = putN (s.1 || decide (4 < L.length), s.2) (L.length : Int) := rfl
theorem linesTo_succ (s : Bool × List Int) {L : List S93} {j : Nat} (h : j < L.length) : linesTo s L (j + 1) = putLine (linesTo s L j) L[j] := by
  unfold linesTo
  rw [List.take_succ_eq_append_getElem h, List.foldl_append]; rfl
theorem linesTo_all (s : Bool × List Int) (L : List S93) : linesTo s L L.length = putLines s L := by
  unfold linesTo putLines; rw [List.take_length]
def Lim3 (y : S93) : Prop := y.f0 < 9223372036854775808 ∧ y.f1 < 9223372036854775808 ∧ y.f2 < 9223372036854775808
theorem linesTo_len {s : Bool × List Int} {L : List S93} (hL : ∀ y ∈ L, Lim3 y) (hl : L.length ≤ 1000000) : ∀ j, j ≤ L.length → (linesTo s L j).2.length ≤ s.2.length + 10 + 30 * j
  | 0, _ => putN_len (s := (s.1 || decide (4 < L.length), s.2)) (by omega)
  | j + 1, h => by
    rw [linesTo_succ s (by omega)]
    have h1 := linesTo_len (s := s) hL hl j (by omega)
    have h2 := hL _ (List.getElem_mem (show j < L.length by omega))
    have h3 := putLine_len (s := linesTo s L j) h2.1 h2.2.1 h2.2.2
    omega
theorem wnumP {w0 W : World} {T : List Thing} {q b i : Nat} {s : Bool × List Int} {cs : Array Value} {e : TypeId} (x : Int) (h : Sit w0 W (.out s.1 q s.2 :: .blk b (.cells cs e (0, 0)) :: T)) (hi : cs[i]? = some (.int .i64 x)) (hx : x < 9223372036854775808) (hl : s.2.length ≤ 1099511627776) :
    Calls Try.prog 29 #[.pointer (some ⟨q, 0, none⟩), .pointer (some ⟨b, i, none⟩)] W fun e' w' => e' = .returned (.tuple #[]) ∧ Sit w0 w' (.out (putN s x).1 q (putN s x).2 :: .blk b (.cells (cs.setIfInBounds i (.int .i64 0)) e (0, 0)) :: T) :=
  wnum h hi hx hl

set_option maxRecDepth 100000 in
set_option maxHeartbeats 16000000 in
theorem wlines {w0 W : World} {T : List Thing} {q b i c : Nat} {s : Bool × List Int} {cs : Array Value} {e : TypeId} {A : Option Addr} {L : List S93} (h : Sit w0 W (.out s.1 q s.2 :: .blk b (.cells cs e (0, 0)) :: T)) (hi : cs[i]? = some (.slice A L.length c)) (hC : Kd.C k93 w0 A L.length L) (hc : L.length ≤ c) (hL : ∀ y ∈ L, Lim3 y) (hl : s.2.length ≤ 1000000000) (hn : L.length ≤ 1000000) :
    Calls Try.prog 53 #[.pointer (some ⟨q, 0, none⟩), .pointer (some ⟨b, i, none⟩)] W fun e' w' => e' = .returned (.tuple #[]) ∧ Sit w0 w' (.out (putLines s L).1 q (putLines s L).2 :: .blk b (.cells (cs.setIfInBounds i (.slice none 0 0)) e (0, 0)) :: T) := by
  obtain ⟨n, hN⟩ : ∃ n, n = L.length := ⟨_, rfl⟩
  have HX := Aside0.mk (And.intro hC (And.intro hL (And.intro hl (And.intro hn hN))))
  obtain ⟨ob, bs⟩ := s
  rw [← linesTo_all]
  rw [← hN] at hi hc ⊢
  have HI := Aside0.mk hi
  have HS := Aside0.mk h
  obtain ⟨o0, of0⟩ := sit_oddc h
  obtain ⟨l0, lf0⟩ := sit_cell h.swap hi
  have hn20 : n ≤ 1000000 := by omega
  -- the flag
  obtain ⟨O, hO⟩ : ∃ O, O = (ob || decide (4 < (n : Int))) := ⟨_, rfl⟩
  have HS1 := Aside0.mk (sit_odd O h)
  obtain ⟨l1, lf1⟩ := sit_cell HS1.out.swap hi
  have hO2 : O = (ob || decide (4 < L.length)) := by rw [hO, hN]; congr 1; exact decide_eq_decide.2 (by omega)
  have hst : linesTo (ob, bs) L 0 = putN (O, bs) (n : Int) := by
    rw [linesTo_zero]
    show putN (ob || decide (4 < L.length), bs) (L.length : Int) = _
    rw [← hO2, ← hN]
  have HL0 := Aside0.mk hst
  clear hst
  have hA := HS1.out.alloc #[.int .i64 (n : Int)] 3
  rw [show (W.setCell ⟨q, 1, none⟩ (.bool O)).heap.size = W.heap.size by simp [World.setCell]] at hA
  have HA := Aside0.mk hA
  clear hA
  have pn := wnumP (s := (O, bs)) (i := 0) (n : Int) HA.out.swap rfl (by omega) (by show bs.length ≤ _; have : bs.length ≤ 1000000000 := hl; omega)
  clear h hi hC hc hL hl hn hN hO2 hn20
  have hob : ∀ (_ : ob = true), O = true := fun e => by rw [hO, e]; rfl
  cases ob with
  | true =>
    obtain rfl := hob rfl
    clear hO hob
    go_enter Try.func53, Try.ntmps53
    go_wp2_with (go_at_call 29; with_reducible refine pn.mono ?_; rintro e' w1 ⟨rfl, hs⟩; have HS2 : Aside0 (Sit w0 w1 (.out (linesTo (true, bs) L 0).1 q (linesTo (true, bs) L 0).2 :: .blk b (.cells cs e (0, 0)) :: T)) := ⟨by rw [HL0.out]; exact hs.swap.tail⟩; obtain ⟨l2, lf2⟩ := sit_cell HS2.out.swap HI.out; clear hs pn)
    clear l0 lf0 l1 lf1 o0 of0 HS1 HA HS
    go_loopg [31] (n + 1) (fun kq v31 w' => ∃ (I : Int) (j : Nat), v31 = .int .i64 I ∧ Aside0 (I = (j : Int) ∧ kq + j = n + 1 ∧ j ≤ n) ∧ Aside0 (Sit w0 w' (.out (linesTo (true, bs) L j).1 q (linesTo (true, bs) L j).2 :: .blk b (.cells cs e (0, 0)) :: T)))
    case atStart => exact ⟨0, 0, rfl, ⟨⟨rfl, rfl, Nat.zero_le _⟩⟩, HS2⟩
    case round =>
      clear HS2 l2 lf2
      obtain ⟨I, j, rfl, HA, HS⟩ := hrel
      cases gk with
      | zero => exact absurd HA.out.2 (by omega)
      | succ k1 =>
        by_cases hi : I < (n : Int)
        · have p1 : decide (I < (n : Int)) = true := decide_eq_true hi
          have p2 : (0 ≤ I) = True := eq_true (by have := HA.out.1; omega)
          have p3 : (I < (n : Int)) = True := eq_true hi
          have hw9 : Aside0 (wrap64 (I + 1) = ((j + 1 : Nat) : Int)) := ⟨by have h3 := HA.out.1; have h4 := HX.out.2.2.2; unfold wrap64; omega⟩
          have hj : j < L.length := by have h3 := HA.out.1; have h4 := HX.out.2.2.2.2; omega
          obtain ⟨ad, ea, x0, x1, x2⟩ := at_T93 HX.out.1 I (by have := HA.out.1; omega) (by rw [← HX.out.2.2.2.2]; exact hi)
          subst ea
          replace x0 := (HS.out.below.cell (World.block_lt_of_cell? w0 _ x0)).trans x0
          replace x1 := (HS.out.below.cell (World.block_lt_of_cell? w0 _ x1)).trans x1
          replace x2 := (HS.out.below.cell (World.block_lt_of_cell? w0 _ x2)).trans x2
          have hr : rd_T93 L I = L[j] := by rw [HA.out.1]; simp [rd_T93, hj]
          obtain ⟨y, hy⟩ : ∃ y, y = L[j] := ⟨_, rfl⟩
          rw [hr, ← hy] at x0 x1 x2
          have hq := HX.out.2.1 _ (List.getElem_mem hj)
          rw [← hy] at hq
          have hlen := linesTo_len (s := (true, bs)) HX.out.2.1 HX.out.2.2.2.1 j (by omega)
          have hlen2 : (linesTo (true, bs) L j).2.length ≤ 1040000000 := by have h3 : bs.length ≤ 1000000000 := HX.out.2.2.1; have h4 : (linesTo (true, bs) L j).2.length ≤ bs.length + 10 + 30 * j := hlen; have h5 := HX.out.2.2.2.1; omega
          have hsucc := linesTo_succ (true, bs) hj
          rw [← hy] at hsucc
          obtain ⟨S, hS⟩ : ∃ S, S = linesTo (true, bs) L j := ⟨_, rfl⟩
          rw [← hS] at hsucc hlen2
          have hSit := HS.out
          rw [← hS] at hSit
          have HB := Aside0.mk (hSit.alloc #[.int .i64 y.f0, .int .i64 y.f1, .int .i64 y.f2] 93)
          have n1 := putN_len (s := S) hq.1
          have n2 := putN_len (s := putN S y.f0) hq.2.1
          have pn1 := wnumP (i := 0) y.f0 HB.out.swap rfl hq.1 (by omega)
          have pn2 := fun (W' : World) (h' : Sit w0 W' (.out (putN S y.f0).1 q (putN S y.f0).2 :: .blk wr.heap.size (.cells #[.int .i64 0, .int .i64 y.f1, .int .i64 y.f2] 93 (0, 0)) :: .blk b (.cells cs e (0, 0)) :: T)) => wnumP (i := 1) y.f1 h' rfl hq.2.1 (by omega)
          have pn3 := fun (W' : World) (h' : Sit w0 W' (.out (putN (putN S y.f0) y.f1).1 q (putN (putN S y.f0) y.f1).2 :: .blk wr.heap.size (.cells #[.int .i64 0, .int .i64 0, .int .i64 y.f2] 93 (0, 0)) :: .blk b (.cells cs e (0, 0)) :: T)) => wnumP (i := 2) y.f2 h' rfl hq.2.2 (by omega)
          have HQ := Aside0.mk hsucc
          have P1 := Aside0.mk pn1
          have P2 := Aside0.mk pn2
          have P3 := Aside0.mk pn3
          clear hr hy hq hlen hlen2 hsucc hS hSit n1 n2 pn1 pn2 pn3 hj hi
          go_wp2_with (first | (go_at_call 29; with_reducible refine (P3.out _ H2.out).mono ?_; rintro e' w4 ⟨rfl, hs⟩; have H3 := Aside0.mk hs; clear hs) | (go_at_call 29; with_reducible refine (P2.out _ H1.out).mono ?_; rintro e' w3 ⟨rfl, hs⟩; have H2 := Aside0.mk hs; clear hs) | (go_at_call 29; with_reducible refine P1.out.mono ?_; rintro e' w2 ⟨rfl, hs⟩; have H1 := Aside0.mk hs; clear hs))
          go_roundg k1
          case measure => omega
          case rel => exact ⟨_, j + 1, rfl, ⟨hw9.out, by have h1 := HA.out; omega, by have h1 := HA.out; have h2 := of_eq_true p3; omega⟩, ⟨by rw [HQ.out]; exact H3.out.swap.tail⟩⟩
        · have p1 : decide (I < (n : Int)) = false := decide_eq_false hi
          obtain ⟨l3, lf3⟩ := sit_cell HS.out.swap HI.out
          have hjn : j = n := by have := HA.out; omega
          go_wp2
          go_end0
          exact ⟨rfl, by rw [← hjn]; exact (HS.out.swap.set i (.slice none 0 0)).swap⟩
  | false =>
    clear hob
    have c4 : decide (4 < (n : Int)) = O := by rw [hO, Bool.false_or]
    clear hO
    go_enter Try.func53, Try.ntmps53
    go_wp2_with (go_at_call 29; with_reducible refine pn.mono ?_; rintro e' w1 ⟨rfl, hs⟩; have HS2 : Aside0 (Sit w0 w1 (.out (linesTo (false, bs) L 0).1 q (linesTo (false, bs) L 0).2 :: .blk b (.cells cs e (0, 0)) :: T)) := ⟨by rw [HL0.out]; exact hs.swap.tail⟩; obtain ⟨l2, lf2⟩ := sit_cell HS2.out.swap HI.out; clear hs pn)
    clear l0 lf0 l1 lf1 o0 of0 HS1 HA HS
    go_loopg [31] (n + 1) (fun kq v31 w' => ∃ (I : Int) (j : Nat), v31 = .int .i64 I ∧ Aside0 (I = (j : Int) ∧ kq + j = n + 1 ∧ j ≤ n) ∧ Aside0 (Sit w0 w' (.out (linesTo (false, bs) L j).1 q (linesTo (false, bs) L j).2 :: .blk b (.cells cs e (0, 0)) :: T)))
    case atStart => exact ⟨0, 0, rfl, ⟨⟨rfl, rfl, Nat.zero_le _⟩⟩, HS2⟩
    case round =>
      clear HS2 l2 lf2
      obtain ⟨I, j, rfl, HA, HS⟩ := hrel
      cases gk with
      | zero => exact absurd HA.out.2 (by omega)
      | succ k1 =>
        by_cases hi : I < (n : Int)
        · have p1 : decide (I < (n : Int)) = true := decide_eq_true hi
          have p2 : (0 ≤ I) = True := eq_true (by have := HA.out.1; omega)
          have p3 : (I < (n : Int)) = True := eq_true hi
          have hw9 : Aside0 (wrap64 (I + 1) = ((j + 1 : Nat) : Int)) := ⟨by have h3 := HA.out.1; have h4 := HX.out.2.2.2; unfold wrap64; omega⟩
          have hj : j < L.length := by have h3 := HA.out.1; have h4 := HX.out.2.2.2.2; omega
          obtain ⟨ad, ea, x0, x1, x2⟩ := at_T93 HX.out.1 I (by have := HA.out.1; omega) (by rw [← HX.out.2.2.2.2]; exact hi)
          subst ea
          replace x0 := (HS.out.below.cell (World.block_lt_of_cell? w0 _ x0)).trans x0
          replace x1 := (HS.out.below.cell (World.block_lt_of_cell? w0 _ x1)).trans x1
          replace x2 := (HS.out.below.cell (World.block_lt_of_cell? w0 _ x2)).trans x2
          have hr : rd_T93 L I = L[j] := by rw [HA.out.1]; simp [rd_T93, hj]
          obtain ⟨y, hy⟩ : ∃ y, y = L[j] := ⟨_, rfl⟩
          rw [hr, ← hy] at x0 x1 x2
          have hq := HX.out.2.1 _ (List.getElem_mem hj)
          rw [← hy] at hq
          have hlen := linesTo_len (s := (false, bs)) HX.out.2.1 HX.out.2.2.2.1 j (by omega)
          have hlen2 : (linesTo (false, bs) L j).2.length ≤ 1040000000 := by have h3 : bs.length ≤ 1000000000 := HX.out.2.2.1; have h4 : (linesTo (false, bs) L j).2.length ≤ bs.length + 10 + 30 * j := hlen; have h5 := HX.out.2.2.2.1; omega
          have hsucc := linesTo_succ (false, bs) hj
          rw [← hy] at hsucc
          obtain ⟨S, hS⟩ : ∃ S, S = linesTo (false, bs) L j := ⟨_, rfl⟩
          rw [← hS] at hsucc hlen2
          have hSit := HS.out
          rw [← hS] at hSit
          have HB := Aside0.mk (hSit.alloc #[.int .i64 y.f0, .int .i64 y.f1, .int .i64 y.f2] 93)
          have n1 := putN_len (s := S) hq.1
          have n2 := putN_len (s := putN S y.f0) hq.2.1
          have pn1 := wnumP (i := 0) y.f0 HB.out.swap rfl hq.1 (by omega)
          have pn2 := fun (W' : World) (h' : Sit w0 W' (.out (putN S y.f0).1 q (putN S y.f0).2 :: .blk wr.heap.size (.cells #[.int .i64 0, .int .i64 y.f1, .int .i64 y.f2] 93 (0, 0)) :: .blk b (.cells cs e (0, 0)) :: T)) => wnumP (i := 1) y.f1 h' rfl hq.2.1 (by omega)
          have pn3 := fun (W' : World) (h' : Sit w0 W' (.out (putN (putN S y.f0) y.f1).1 q (putN (putN S y.f0) y.f1).2 :: .blk wr.heap.size (.cells #[.int .i64 0, .int .i64 0, .int .i64 y.f2] 93 (0, 0)) :: .blk b (.cells cs e (0, 0)) :: T)) => wnumP (i := 2) y.f2 h' rfl hq.2.2 (by omega)
          have HQ := Aside0.mk hsucc
          have P1 := Aside0.mk pn1
          have P2 := Aside0.mk pn2
          have P3 := Aside0.mk pn3
          clear hr hy hq hlen hlen2 hsucc hS hSit n1 n2 pn1 pn2 pn3 hj hi
          go_wp2_with (first | (go_at_call 29; with_reducible refine (P3.out _ H2.out).mono ?_; rintro e' w4 ⟨rfl, hs⟩; have H3 := Aside0.mk hs; clear hs) | (go_at_call 29; with_reducible refine (P2.out _ H1.out).mono ?_; rintro e' w3 ⟨rfl, hs⟩; have H2 := Aside0.mk hs; clear hs) | (go_at_call 29; with_reducible refine P1.out.mono ?_; rintro e' w2 ⟨rfl, hs⟩; have H1 := Aside0.mk hs; clear hs))
          go_roundg k1
          case measure => omega
          case rel => exact ⟨_, j + 1, rfl, ⟨hw9.out, by have h1 := HA.out; omega, by have h1 := HA.out; have h2 := of_eq_true p3; omega⟩, ⟨by rw [HQ.out]; exact H3.out.swap.tail⟩⟩
        · have p1 : decide (I < (n : Int)) = false := decide_eq_false hi
          obtain ⟨l3, lf3⟩ := sit_cell HS.out.swap HI.out
          have hjn : j = n := by have := HA.out; omega
          go_wp2
          go_end0
          exact ⟨rfl, by rw [← hjn]; exact (HS.out.swap.set i (.slice none 0 0)).swap⟩
end Go.Proofs.Ytgdelfckhcgnhaa.Code

namespace Go.Proofs.Ytgdelfckhcgnhaa.Code
open Go.RowKit Go.Proofs.Ytgdelfckhcgnhaa.Pa Go.Proofs.YtgdelfckhcgnhaaW.PrintWords Go.Proofs.YtgdelfckhcgnhaaW.PrintLast Go.Proofs.YtgdelfckhcgnhaaW.PrintMore
set_option linter.unusedVariables false
set_option linter.unusedSimpArgs false
variable {ob : Bool}

def putI (s : Bool × List Int) (x : Int) : Bool × List Int := (s.1, s.2 ++ digs (zig x))
theorem zig_lt {x : Int} (h0 : -9223372036854775808 ≤ x) (hx : x < 9223372036854775808) : zig x < 18446744073709551616 := by
  unfold zig
  by_cases c : x < 0
  · rw [if_pos c]; omega
  · rw [if_neg c]; omega
theorem putI_len {s : Bool × List Int} {x : Int} (h0 : -9223372036854775808 ≤ x) (hx : x < 9223372036854775808) : (putI s x).2.length ≤ s.2.length + 10 := by
  unfold putI
  simp only [List.length_append]
  have := digs_ten (zig_lt h0 hx)
  omega
theorem wwholeP {w0 W : World} {T : List Thing} {q b i : Nat} {s : Bool × List Int} {cs : Array Value} {e : TypeId} (x : Int) (h : Sit w0 W (.out s.1 q s.2 :: .blk b (.cells cs e (0, 0)) :: T)) (hi : cs[i]? = some (.int .i64 x)) (h0 : -9223372036854775808 ≤ x) (hx : x < 9223372036854775808) (hl : s.2.length ≤ 1099511627776) :
    Calls Try.prog 52 #[.pointer (some ⟨q, 0, none⟩), .pointer (some ⟨b, i, none⟩)] W fun e' w' => e' = .returned (.tuple #[]) ∧ Sit w0 w' (.out (putI s x).1 q (putI s x).2 :: .blk b (.cells (cs.setIfInBounds i (.int .i64 0)) e (0, 0)) :: T) :=
  wwhole h hi h0 hx hl
def putEntry (s : Bool × List Int) (y : S76) : Bool × List Int := putI (putN (putN (putN s y.f0) y.f1) y.f2) y.f3
def Lim4 (y : S76) : Prop := y.f0 < 9223372036854775808 ∧ y.f1 < 9223372036854775808 ∧ y.f2 < 9223372036854775808 ∧ -9223372036854775808 ≤ y.f3 ∧ y.f3 < 9223372036854775808
theorem putEntry_len {s : Bool × List Int} {y : S76} (h : Lim4 y) : (putEntry s y).2.length ≤ s.2.length + 40 := by
  unfold putEntry
  have a := putN_len (s := s) h.1
  have b := putN_len (s := putN s y.f0) h.2.1
  have c := putN_len (s := putN (putN s y.f0) y.f1) h.2.2.1
  have d := putI_len (s := putN (putN (putN s y.f0) y.f1) y.f2) h.2.2.2.1 h.2.2.2.2
  omega
def putEntries (s : Bool × List Int) (L : List S76) : Bool × List Int := L.foldl putEntry (putN (s.1 || decide (8 < L.length), s.2) (L.length : Int))
def entriesTo (s : Bool × List Int) (L : List S76) (j : Nat) : Bool × List Int := (L.take j).foldl putEntry (putN (s.1 || decide (8 < L.length), s.2) (L.length : Int))
theorem entriesTo_zero (s : Bool × List Int) (L : List S76) : entriesTo s L 0 = putN (s.1 || decide (8 < L.length), s.2) (L.length : Int) := rfl
theorem entriesTo_succ (s : Bool × List Int) {L : List S76} {j : Nat} (h : j < L.length) : entriesTo s L (j + 1) = putEntry (entriesTo s L j) L[j] := by
  unfold entriesTo
  rw [List.take_succ_eq_append_getElem h, List.foldl_append]; rfl
theorem entriesTo_all (s : Bool × List Int) (L : List S76) : entriesTo s L L.length = putEntries s L := by
  unfold entriesTo putEntries; rw [List.take_length]
theorem entriesTo_len {s : Bool × List Int} {L : List S76} (hL : ∀ y ∈ L, Lim4 y) (hl : L.length ≤ 1000000) : ∀ j, j ≤ L.length → (entriesTo s L j).2.length ≤ s.2.length + 10 + 40 * j
  | 0, _ => putN_len (s := (s.1 || decide (8 < L.length), s.2)) (by omega)
  | j + 1, h => by
    rw [entriesTo_succ s (by omega)]
    have h1 := entriesTo_len (s := s) hL hl j (by omega)
    have h2 := hL _ (List.getElem_mem (show j < L.length by omega))
    have h3 := putEntry_len (s := entriesTo s L j) h2
    omega
set_option maxRecDepth 100000 in
set_option maxHeartbeats 16000000 in
theorem wentries {w0 W : World} {T : List Thing} {q b i c : Nat} {s : Bool × List Int} {cs : Array Value} {e : TypeId} {A : Option Addr} {L : List S76} (h : Sit w0 W (.out s.1 q s.2 :: .blk b (.cells cs e (0, 0)) :: T)) (hi : cs[i]? = some (.slice A L.length c)) (hC : Kd.C k76 w0 A L.length L) (hc : L.length ≤ c) (hL : ∀ y ∈ L, Lim4 y) (hl : s.2.length ≤ 1000000000) (hn : L.length ≤ 1000000) :
    Calls Try.prog 54 #[.pointer (some ⟨q, 0, none⟩), .pointer (some ⟨b, i, none⟩)] W fun e' w' => e' = .returned (.tuple #[]) ∧ Sit w0 w' (.out (putEntries s L).1 q (putEntries s L).2 :: .blk b (.cells (cs.setIfInBounds i (.slice none 0 0)) e (0, 0)) :: T) := by
  obtain ⟨n, hN⟩ : ∃ n, n = L.length := ⟨_, rfl⟩
  have HX := Aside0.mk (And.intro hC (And.intro hL (And.intro hl (And.intro hn hN))))
  obtain ⟨ob, bs⟩ := s
  rw [← entriesTo_all]
  rw [← hN] at hi hc ⊢
  have HI := Aside0.mk hi
  have HS := Aside0.mk h
  obtain ⟨o0, of0⟩ := sit_oddc h
  obtain ⟨l0, lf0⟩ := sit_cell h.swap hi
  have hn20 : n ≤ 1000000 := by omega
  -- the flag
  obtain ⟨O, hO⟩ : ∃ O, O = (ob || decide (8 < (n : Int))) := ⟨_, rfl⟩
  have HS1 := Aside0.mk (sit_odd O h)
  obtain ⟨l1, lf1⟩ := sit_cell HS1.out.swap hi
  have hO2 : O = (ob || decide (8 < L.length)) := by rw [hO, hN]; congr 1; exact decide_eq_decide.2 (by omega)
  have hst : entriesTo (ob, bs) L 0 = putN (O, bs) (n : Int) := by
    rw [entriesTo_zero]
    show putN (ob || decide (8 < L.length), bs) (L.length : Int) = _
    rw [← hO2, ← hN]
  have HL0 := Aside0.mk hst
  clear hst
  have hA := HS1.out.alloc #[.int .i64 (n : Int)] 3
  rw [show (W.setCell ⟨q, 1, none⟩ (.bool O)).heap.size = W.heap.size by simp [World.setCell]] at hA
  have HA := Aside0.mk hA
  clear hA
  have pn := wnumP (s := (O, bs)) (i := 0) (n : Int) HA.out.swap rfl (by omega) (by show bs.length ≤ _; have : bs.length ≤ 1000000000 := hl; omega)
  clear h hi hC hc hL hl hn hN hO2 hn20
  have hob : ∀ (_ : ob = true), O = true := fun e => by rw [hO, e]; rfl
  cases ob with
  | true =>
    obtain rfl := hob rfl
    clear hO hob
    go_enter Try.func54, Try.ntmps54
    go_wp2_with (go_at_call 29; with_reducible refine pn.mono ?_; rintro e' w1 ⟨rfl, hs⟩; have HS2 : Aside0 (Sit w0 w1 (.out (entriesTo (true, bs) L 0).1 q (entriesTo (true, bs) L 0).2 :: .blk b (.cells cs e (0, 0)) :: T)) := ⟨by rw [HL0.out]; exact hs.swap.tail⟩; obtain ⟨l2, lf2⟩ := sit_cell HS2.out.swap HI.out; clear hs pn)
    clear l0 lf0 l1 lf1 o0 of0 HS1 HA HS
    go_loopg [31] (n + 1) (fun kq v31 w' => ∃ (I : Int) (j : Nat), v31 = .int .i64 I ∧ Aside0 (I = (j : Int) ∧ kq + j = n + 1 ∧ j ≤ n) ∧ Aside0 (Sit w0 w' (.out (entriesTo (true, bs) L j).1 q (entriesTo (true, bs) L j).2 :: .blk b (.cells cs e (0, 0)) :: T)))
    case atStart => exact ⟨0, 0, rfl, ⟨⟨rfl, rfl, Nat.zero_le _⟩⟩, HS2⟩
    case round =>
      clear HS2 l2 lf2
      obtain ⟨I, j, rfl, HA, HS⟩ := hrel
      cases gk with
      | zero => exact absurd HA.out.2 (by omega)
      | succ k1 =>
        by_cases hi : I < (n : Int)
        · have p1 : decide (I < (n : Int)) = true := decide_eq_true hi
          have p2 : (0 ≤ I) = True := eq_true (by have := HA.out.1; omega)
          have p3 : (I < (n : Int)) = True := eq_true hi
          have hw9 : Aside0 (wrap64 (I + 1) = ((j + 1 : Nat) : Int)) := ⟨by have h3 := HA.out.1; have h4 := HX.out.2.2.2; unfold wrap64; omega⟩
          have hj : j < L.length := by have h3 := HA.out.1; have h4 := HX.out.2.2.2.2; omega
          obtain ⟨ad, ea, x0, x1, x2, x3⟩ := at_T76 HX.out.1 I (by have := HA.out.1; omega) (by rw [← HX.out.2.2.2.2]; exact hi)
          subst ea
          replace x0 := (HS.out.below.cell (World.block_lt_of_cell? w0 _ x0)).trans x0
          replace x1 := (HS.out.below.cell (World.block_lt_of_cell? w0 _ x1)).trans x1
          replace x2 := (HS.out.below.cell (World.block_lt_of_cell? w0 _ x2)).trans x2
          replace x3 := (HS.out.below.cell (World.block_lt_of_cell? w0 _ x3)).trans x3
          have hr : rd_T76 L I = L[j] := by rw [HA.out.1]; simp [rd_T76, hj]
          obtain ⟨y, hy⟩ : ∃ y, y = L[j] := ⟨_, rfl⟩
          rw [hr, ← hy] at x0 x1 x2 x3
          have hq := HX.out.2.1 _ (List.getElem_mem hj)
          rw [← hy] at hq
          have hlen := entriesTo_len (s := (true, bs)) HX.out.2.1 HX.out.2.2.2.1 j (by omega)
          have hlen2 : (entriesTo (true, bs) L j).2.length ≤ 1050000000 := by have h3 : bs.length ≤ 1000000000 := HX.out.2.2.1; have h4 : (entriesTo (true, bs) L j).2.length ≤ bs.length + 10 + 40 * j := hlen; have h5 := HX.out.2.2.2.1; omega
          have hsucc := entriesTo_succ (true, bs) hj
          rw [← hy] at hsucc
          obtain ⟨S, hS⟩ : ∃ S, S = entriesTo (true, bs) L j := ⟨_, rfl⟩
          rw [← hS] at hsucc hlen2
          have hSit := HS.out
          rw [← hS] at hSit
          have HB := Aside0.mk (hSit.alloc #[.int .i64 y.f0, .int .i64 y.f1, .int .i64 y.f2, .int .i64 y.f3] 76)
          have n1 := putN_len (s := S) hq.1
          have n2 := putN_len (s := putN S y.f0) hq.2.1
          have pn1 := wnumP (i := 0) y.f0 HB.out.swap rfl hq.1 (by omega)
          have pn2 := fun (W' : World) (h' : Sit w0 W' (.out (putN S y.f0).1 q (putN S y.f0).2 :: .blk wr.heap.size (.cells #[.int .i64 0, .int .i64 y.f1, .int .i64 y.f2, .int .i64 y.f3] 76 (0, 0)) :: .blk b (.cells cs e (0, 0)) :: T)) => wnumP (i := 1) y.f1 h' rfl hq.2.1 (by omega)
          have pn3 := fun (W' : World) (h' : Sit w0 W' (.out (putN (putN S y.f0) y.f1).1 q (putN (putN S y.f0) y.f1).2 :: .blk wr.heap.size (.cells #[.int .i64 0, .int .i64 0, .int .i64 y.f2, .int .i64 y.f3] 76 (0, 0)) :: .blk b (.cells cs e (0, 0)) :: T)) => wnumP (i := 2) y.f2 h' rfl hq.2.2.1 (by omega)
          have n3 := putN_len (s := putN (putN S y.f0) y.f1) hq.2.2.1
          have pn4 := fun (W' : World) (h' : Sit w0 W' (.out (putN (putN (putN S y.f0) y.f1) y.f2).1 q (putN (putN (putN S y.f0) y.f1) y.f2).2 :: .blk wr.heap.size (.cells #[.int .i64 0, .int .i64 0, .int .i64 0, .int .i64 y.f3] 76 (0, 0)) :: .blk b (.cells cs e (0, 0)) :: T)) => wwholeP (i := 3) y.f3 h' rfl hq.2.2.2.1 hq.2.2.2.2 (by omega)
          have HQ := Aside0.mk hsucc
          have P1 := Aside0.mk pn1
          have P2 := Aside0.mk pn2
          have P3 := Aside0.mk pn3
          have P4 := Aside0.mk pn4
          clear hr hy hq hlen hlen2 hsucc hS hSit n1 n2 n3 pn1 pn2 pn3 pn4 hj hi
          go_wp2_with (first | (go_at_call 52; with_reducible refine (P4.out _ H3.out).mono ?_; rintro e' w5 ⟨rfl, hs⟩; have H4 := Aside0.mk hs; clear hs) | (go_at_call 29; with_reducible refine (P3.out _ H2.out).mono ?_; rintro e' w4 ⟨rfl, hs⟩; have H3 := Aside0.mk hs; clear hs) | (go_at_call 29; with_reducible refine (P2.out _ H1.out).mono ?_; rintro e' w3 ⟨rfl, hs⟩; have H2 := Aside0.mk hs; clear hs) | (go_at_call 29; with_reducible refine P1.out.mono ?_; rintro e' w2 ⟨rfl, hs⟩; have H1 := Aside0.mk hs; clear hs))
          go_roundg k1
          case measure => omega
          case rel => exact ⟨_, j + 1, rfl, ⟨hw9.out, by have h1 := HA.out; omega, by have h1 := HA.out; have h2 := of_eq_true p3; omega⟩, ⟨by rw [HQ.out]; exact H4.out.swap.tail⟩⟩
        · have p1 : decide (I < (n : Int)) = false := decide_eq_false hi
          obtain ⟨l3, lf3⟩ := sit_cell HS.out.swap HI.out
          have hjn : j = n := by have := HA.out; omega
          go_wp2
          go_end0
          exact ⟨rfl, by rw [← hjn]; exact (HS.out.swap.set i (.slice none 0 0)).swap⟩
  | false =>
    clear hob
    have c4 : decide (8 < (n : Int)) = O := by rw [hO, Bool.false_or]
    clear hO
    go_enter Try.func54, Try.ntmps54
    go_wp2_with (go_at_call 29; with_reducible refine pn.mono ?_; rintro e' w1 ⟨rfl, hs⟩; have HS2 : Aside0 (Sit w0 w1 (.out (entriesTo (false, bs) L 0).1 q (entriesTo (false, bs) L 0).2 :: .blk b (.cells cs e (0, 0)) :: T)) := ⟨by rw [HL0.out]; exact hs.swap.tail⟩; obtain ⟨l2, lf2⟩ := sit_cell HS2.out.swap HI.out; clear hs pn)
    clear l0 lf0 l1 lf1 o0 of0 HS1 HA HS
    go_loopg [31] (n + 1) (fun kq v31 w' => ∃ (I : Int) (j : Nat), v31 = .int .i64 I ∧ Aside0 (I = (j : Int) ∧ kq + j = n + 1 ∧ j ≤ n) ∧ Aside0 (Sit w0 w' (.out (entriesTo (false, bs) L j).1 q (entriesTo (false, bs) L j).2 :: .blk b (.cells cs e (0, 0)) :: T)))
    case atStart => exact ⟨0, 0, rfl, ⟨⟨rfl, rfl, Nat.zero_le _⟩⟩, HS2⟩
    case round =>
      clear HS2 l2 lf2
      obtain ⟨I, j, rfl, HA, HS⟩ := hrel
      cases gk with
      | zero => exact absurd HA.out.2 (by omega)
      | succ k1 =>
        by_cases hi : I < (n : Int)
        · have p1 : decide (I < (n : Int)) = true := decide_eq_true hi
          have p2 : (0 ≤ I) = True := eq_true (by have := HA.out.1; omega)
          have p3 : (I < (n : Int)) = True := eq_true hi
          have hw9 : Aside0 (wrap64 (I + 1) = ((j + 1 : Nat) : Int)) := ⟨by have h3 := HA.out.1; have h4 := HX.out.2.2.2; unfold wrap64; omega⟩
          have hj : j < L.length := by have h3 := HA.out.1; have h4 := HX.out.2.2.2.2; omega
          obtain ⟨ad, ea, x0, x1, x2, x3⟩ := at_T76 HX.out.1 I (by have := HA.out.1; omega) (by rw [← HX.out.2.2.2.2]; exact hi)
          subst ea
          replace x0 := (HS.out.below.cell (World.block_lt_of_cell? w0 _ x0)).trans x0
          replace x1 := (HS.out.below.cell (World.block_lt_of_cell? w0 _ x1)).trans x1
          replace x2 := (HS.out.below.cell (World.block_lt_of_cell? w0 _ x2)).trans x2
          replace x3 := (HS.out.below.cell (World.block_lt_of_cell? w0 _ x3)).trans x3
          have hr : rd_T76 L I = L[j] := by rw [HA.out.1]; simp [rd_T76, hj]
          obtain ⟨y, hy⟩ : ∃ y, y = L[j] := ⟨_, rfl⟩
          rw [hr, ← hy] at x0 x1 x2 x3
          have hq := HX.out.2.1 _ (List.getElem_mem hj)
          rw [← hy] at hq
          have hlen := entriesTo_len (s := (false, bs)) HX.out.2.1 HX.out.2.2.2.1 j (by omega)
          have hlen2 : (entriesTo (false, bs) L j).2.length ≤ 1050000000 := by have h3 : bs.length ≤ 1000000000 := HX.out.2.2.1; have h4 : (entriesTo (false, bs) L j).2.length ≤ bs.length + 10 + 40 * j := hlen; have h5 := HX.out.2.2.2.1; omega
          have hsucc := entriesTo_succ (false, bs) hj
          rw [← hy] at hsucc
          obtain ⟨S, hS⟩ : ∃ S, S = entriesTo (false, bs) L j := ⟨_, rfl⟩
          rw [← hS] at hsucc hlen2
          have hSit := HS.out
          rw [← hS] at hSit
          have HB := Aside0.mk (hSit.alloc #[.int .i64 y.f0, .int .i64 y.f1, .int .i64 y.f2, .int .i64 y.f3] 76)
          have n1 := putN_len (s := S) hq.1
          have n2 := putN_len (s := putN S y.f0) hq.2.1
          have pn1 := wnumP (i := 0) y.f0 HB.out.swap rfl hq.1 (by omega)
          have pn2 := fun (W' : World) (h' : Sit w0 W' (.out (putN S y.f0).1 q (putN S y.f0).2 :: .blk wr.heap.size (.cells #[.int .i64 0, .int .i64 y.f1, .int .i64 y.f2, .int .i64 y.f3] 76 (0, 0)) :: .blk b (.cells cs e (0, 0)) :: T)) => wnumP (i := 1) y.f1 h' rfl hq.2.1 (by omega)
          have pn3 := fun (W' : World) (h' : Sit w0 W' (.out (putN (putN S y.f0) y.f1).1 q (putN (putN S y.f0) y.f1).2 :: .blk wr.heap.size (.cells #[.int .i64 0, .int .i64 0, .int .i64 y.f2, .int .i64 y.f3] 76 (0, 0)) :: .blk b (.cells cs e (0, 0)) :: T)) => wnumP (i := 2) y.f2 h' rfl hq.2.2.1 (by omega)
          have n3 := putN_len (s := putN (putN S y.f0) y.f1) hq.2.2.1
          have pn4 := fun (W' : World) (h' : Sit w0 W' (.out (putN (putN (putN S y.f0) y.f1) y.f2).1 q (putN (putN (putN S y.f0) y.f1) y.f2).2 :: .blk wr.heap.size (.cells #[.int .i64 0, .int .i64 0, .int .i64 0, .int .i64 y.f3] 76 (0, 0)) :: .blk b (.cells cs e (0, 0)) :: T)) => wwholeP (i := 3) y.f3 h' rfl hq.2.2.2.1 hq.2.2.2.2 (by omega)
          have HQ := Aside0.mk hsucc
          have P1 := Aside0.mk pn1
          have P2 := Aside0.mk pn2
          have P3 := Aside0.mk pn3
          have P4 := Aside0.mk pn4
          clear hr hy hq hlen hlen2 hsucc hS hSit n1 n2 n3 pn1 pn2 pn3 pn4 hj hi
          go_wp2_with (first | (go_at_call 52; with_reducible refine (P4.out _ H3.out).mono ?_; rintro e' w5 ⟨rfl, hs⟩; have H4 := Aside0.mk hs; clear hs) | (go_at_call 29; with_reducible refine (P3.out _ H2.out).mono ?_; rintro e' w4 ⟨rfl, hs⟩; have H3 := Aside0.mk hs; clear hs) | (go_at_call 29; with_reducible refine (P2.out _ H1.out).mono ?_; rintro e' w3 ⟨rfl, hs⟩; have H2 := Aside0.mk hs; clear hs) | (go_at_call 29; with_reducible refine P1.out.mono ?_; rintro e' w2 ⟨rfl, hs⟩; have H1 := Aside0.mk hs; clear hs))
          go_roundg k1
          case measure => omega
          case rel => exact ⟨_, j + 1, rfl, ⟨hw9.out, by have h1 := HA.out; omega, by have h1 := HA.out; have h2 := of_eq_true p3; omega⟩, ⟨by rw [HQ.out]; exact H4.out.swap.tail⟩⟩
        · have p1 : decide (I < (n : Int)) = false := decide_eq_false hi
          obtain ⟨l3, lf3⟩ := sit_cell HS.out.swap HI.out
          have hjn : j = n := by have := HA.out; omega
          go_wp2
          go_end0
          exact ⟨rfl, by rw [← hjn]; exact (HS.out.swap.set i (.slice none 0 0)).swap⟩
end Go.Proofs.Ytgdelfckhcgnhaa.Code

namespace Go.Proofs.Ytgdelfckhcgnhaa.Code
open Go.RowKit Go.Proofs.Ytgdelfckhcgnhaa.Pa Go.Proofs.YtgdelfckhcgnhaaW.PrintWords Go.Proofs.YtgdelfckhcgnhaaW.PrintLast Go.Proofs.YtgdelfckhcgnhaaW.PrintMore
attribute [local go_sem] max2_int min2_int max_two min_two
set_option linter.unusedVariables false
set_option linter.unusedSimpArgs false

/-- What a reader has: its flag, and what is left. -/
def getN (s : Bool × List Int) : Bool × List Int := (s.1 || (getNum s.2).e != 0, (getNum s.2).left)
def getI (s : Bool × List Int) : Bool × List Int := (s.1 || (getInt s.2).e != 0, (getInt s.2).left)
theorem rnumP {w0 W : World} {T : List Thing} {g r b i : Nat} {s : Bool × List Int} {cs : Array Value} {e : TypeId} {x : Int} (h : Sit w0 W (.inn g s.2 :: .blk r (rdr g s.1) :: .blk b (.cells cs e (0, 0)) :: T)) (hi : cs[i]? = some (.int .i64 x)) :
    Calls Try.prog 23 #[.pointer (some ⟨r, 0, none⟩), .pointer (some ⟨b, i, none⟩)] W fun e' w' => e' = .returned (.tuple #[]) ∧ Sit w0 w' (.inn g (getN s).2 :: .blk r (rdr g (getN s).1) :: .blk b (.cells (cs.setIfInBounds i (.int .i64 (getNum s.2).v)) e (0, 0)) :: T) := rnum h hi
theorem rwholeP {w0 W : World} {T : List Thing} {g r b i : Nat} {s : Bool × List Int} {cs : Array Value} {e : TypeId} {x : Int} (h : Sit w0 W (.inn g s.2 :: .blk r (rdr g s.1) :: .blk b (.cells cs e (0, 0)) :: T)) (hi : cs[i]? = some (.int .i64 x)) :
    Calls Try.prog 48 #[.pointer (some ⟨r, 0, none⟩), .pointer (some ⟨b, i, none⟩)] W fun e' w' => e' = .returned (.tuple #[]) ∧ Sit w0 w' (.inn g (getI s).2 :: .blk r (rdr g (getI s).1) :: .blk b (.cells (cs.setIfInBounds i (.int .i64 (getInt s.2).v)) e (0, 0)) :: T) := rwhole h hi
/-- How many: the flag, and the number. -/
def getM (M : Int) (s : Bool × List Int) : Bool × List Int := ((getN s).1 || decide (M < (getNum s.2).v), (getN s).2)
def manyOf (M : Int) (s : Bool × List Int) : Int := if M < (getNum s.2).v then M else (getNum s.2).v

set_option maxRecDepth 100000 in
set_option maxHeartbeats 4000000 in
theorem rmany {w0 W : World} {T : List Thing} {g r : Nat} {s : Bool × List Int} (M : Int) (h : Sit w0 W (.inn g s.2 :: .blk r (rdr g s.1) :: T)) :
    Calls Try.prog 61 #[.pointer (some ⟨r, 0, none⟩), .int .i64 M] W fun e' w' => e' = .returned (.int .i64 (manyOf M s)) ∧ Sit w0 w' (.inn g (getM M s).2 :: .blk r (rdr g (getM M s).1) :: T) := by
  have hA := h.alloc #[.int .i64 0] 3
  have pn := rnumP (i := 0) (x := 0) hA.rot.rot rfl
  obtain ⟨O, hO⟩ : ∃ O, O = (getN s).1 := ⟨_, rfl⟩
  obtain ⟨V, hV⟩ : ∃ V, V = (getNum s.2).v := ⟨_, rfl⟩
  have hm : getM M s = (O || decide (M < V), (getN s).2) := by unfold getM; rw [hO, hV]
  have hm1 : manyOf M s = if M < V then M else V := by unfold manyOf; rw [hV]
  rw [hm, hm1]
  rw [← hO, ← hV] at pn
  obtain ⟨L, hL⟩ : ∃ L, L = (getN s).2 := ⟨_, rfl⟩
  rw [← hL] at pn ⊢
  simp only [List.setIfInBounds_toArray, List.set_cons_zero] at pn
  have PN := Aside0.mk pn
  clear h hA pn hO hV hL hm hm1
  cases O with
  | true =>
    go_enter Try.func61, Try.ntmps61
    go_wp2_with (go_at_call 23; with_reducible refine PN.out.mono ?_; rintro e' w1 ⟨rfl, hs⟩; have HS := Aside0.mk hs; obtain ⟨r1, rf1⟩ := sit_cell (cs := #[.pointer (some ⟨g, 0, none⟩), .bool true]) (i := 1) hs.swap rfl; obtain ⟨b1, bf1⟩ := sit_cell (i := 0) (v := .int .i64 V) hs.rot rfl; have hne := hs.tail.ne; have hne2 := hne.symm; clear hs)
    all_goals (go_ret; exact ⟨rfl, (HS.out.rot.tail.swap.set 1 (.bool true)).swap⟩)
  | false =>
    go_enter Try.func61, Try.ntmps61
    go_wp2_with (go_at_call 23; with_reducible refine PN.out.mono ?_; rintro e' w1 ⟨rfl, hs⟩; have HS := Aside0.mk hs; obtain ⟨r1, rf1⟩ := sit_cell (cs := #[.pointer (some ⟨g, 0, none⟩), .bool false]) (i := 1) hs.swap rfl; obtain ⟨b1, bf1⟩ := sit_cell (i := 0) (v := .int .i64 V) hs.rot rfl; have hne := hs.tail.ne; have hne2 := hne.symm; clear hs)
    all_goals (go_ret; first | exact ⟨rfl, (HS.out.rot.tail.swap.set 1 (.bool true)).swap⟩ | exact ⟨rfl, (HS.out.rot.tail.swap.set 1 (.bool false)).swap⟩)
end Go.Proofs.Ytgdelfckhcgnhaa.Code

namespace Go.Proofs.Ytgdelfckhcgnhaa.Code
open Go.RowKit Go.Proofs.Ytgdelfckhcgnhaa.Pa Go.Proofs.YtgdelfckhcgnhaaW.PrintWords Go.Proofs.YtgdelfckhcgnhaaW.PrintLast Go.Proofs.YtgdelfckhcgnhaaW.PrintMore
set_option linter.unusedVariables false
set_option linter.unusedSimpArgs false

theorem own_lt {w : World} {base n : Nat} {e : TypeId} {size : Nat} {v : Value} {xs : List Value} (h : w.ownsRow base e size v n xs) : ∀ k, v.ownBlock = some k → k < w.heap.size := by
  intro k hk
  rcases h.2 with ⟨rfl, _⟩ | ⟨g, cap, cur, rfl, _, hh, _⟩
  · simp [Value.ownBlock] at hk
  · have e : g = k := by simpa [Value.ownBlock] using hk
    subst e
    rcases Nat.lt_or_ge g w.heap.size with h | h
    · exact h
    · rw [Array.getElem?_eq_none h] at hh; cases hh
theorem sh5 (a b c d f : Thing) (T : List Thing) : (a :: b :: c :: d :: f :: T).Perm (f :: a :: b :: c :: d :: T) :=
  (((((List.Perm.swap f d T).cons c).trans (List.Perm.swap f c _)).cons b).trans (List.Perm.swap f b _)).cons a |>.trans (List.Perm.swap f a _)
theorem Sit.swap45 {w0 W : World} {a b c d f : Thing} {T : List Thing} (h : Sit w0 W (f :: a :: b :: c :: d :: T)) : Sit w0 W (f :: d :: a :: b :: c :: T) :=
  h.perm (((((List.Perm.swap d c T).cons b).trans (List.Perm.swap d b _)).cons a |>.trans (List.Perm.swap d a _)).cons f)
theorem set_set {cs : Array Value} {i : Nat} (u v : Value) : (cs.setIfInBounds i u).setIfInBounds i v = cs.setIfInBounds i v := by
  apply Array.ext_getElem?
  intro j
  simp only [Array.getElem?_setIfInBounds]
  split
  · simp
  · rfl
theorem set_same {cs : Array Value} {i : Nat} {u : Value} (h : cs[i]? = some u) : cs.setIfInBounds i u = cs := by
  apply Array.ext_getElem?
  intro j
  rw [Array.getElem?_setIfInBounds]
  by_cases e : i = j
  · subst e; rw [if_pos rfl, h]
    have : i < cs.size := by
      rcases Nat.lt_or_ge i cs.size with h1 | h1
      · exact h1
      · rw [Array.getElem?_eq_none h1] at h; cases h
    simp [this]
  · rw [if_neg e]
theorem set_at {cs : Array Value} {i : Nat} {u : Value} (h : cs[i]? = some u) (v : Value) : (cs.setIfInBounds i v)[i]? = some v := by
  have : i < cs.size := by
    rcases Nat.lt_or_ge i cs.size with h1 | h1
    · exact h1
    · rw [Array.getElem?_eq_none h1] at h; cases h
  rw [Array.getElem?_setIfInBounds, if_pos rfl]; simp [this]
theorem shB (a b c d : Thing) (T : List Thing) : (a :: b :: c :: d :: T).Perm (b :: c :: d :: a :: T) :=
  (List.Perm.swap b a _).trans (((List.Perm.swap c a _).trans ((List.Perm.swap d a T).cons c)).cons b)
theorem info93 : (Try.prog.info? 93).map (fun i => (i.zero, i.size, i.bytes)) = some (some (.agg #[.int .i64 0, .int .i64 0, .int .i64 0]), 3, 24) := by kernel_rfl
def cells93 (y : S93) : List Value := [.int .i64 y.f0, .int .i64 y.f1, .int .i64 y.f2]
def flat93 (L : List S93) : List Value := L.flatMap cells93
theorem flat93_snoc (L : List S93) (y : S93) : flat93 (L ++ [y]) = flat93 L ++ cells93 y := by simp [flat93]
/-- A row of its own. -/
def At93 (v : Value) (L : List S93) (W : World) (F : Nat → Prop) : Prop := W.ownsRow 0 93 3 v L.length (flat93 L) ∧ ∀ k, v.ownBlock = some k → F k
theorem At93.moves (v : Value) (L : List S93) : Moves (At93 v L) := fun h hw hn => ⟨own_move h.1 (fun k hk => by
  have h1 := own_lt h.1 k hk
  exact hw.kept.2 k h1 (hn k (h.2 k hk))), h.2⟩
abbrev row93 (v : Value) (L : List S93) : Thing := .gen (At93 v L) (At93.moves v L)
theorem sit_append93 {w0 W w1 : World} {T : List Thing} {v v1 : Value} {L : List S93} {y : S93} (h : Sit w0 W (row93 v L :: T)) (ho : w1.ownsRow 0 93 3 v1 (L.length + 1) (flat93 L ++ cells93 y)) (hg : W.grownBy w1 v.ownBlock) (hat : v1.ownBlock = v.ownBlock ∨ ∃ b, v1.ownBlock = some b ∧ W.heap.size ≤ b) : Sit w0 w1 (row93 v1 (L ++ [y]) :: T) := by
  obtain ⟨hb, F, k1, k2, k3⟩ := h
  have hlt := own_lt ho
  refine Sit.turn (t := row93 v L) (F := F) (F' := fun k => v1.ownBlock = some k) hb k2 k3 ?_ ?_ (Went.grown (Went.refl F W) hg (fun k hk => .inl (k1.2 k hk)))
  · refine ⟨?_, fun _ h => h⟩
    rw [List.length_append, flat93_snoc]; exact ho
  · intro k hk
    refine ⟨?_, hlt k hk⟩
    rcases hat with e | ⟨b, e, hb⟩
    · exact .inl (k1.2 k (e ▸ hk))
    · rw [hk] at e; cases e; exact .inr hb
theorem sit_nil93 {w0 W : World} {T : List Thing} (h : Sit w0 W T) : Sit w0 W (row93 (.slice none 0 0) [] :: T) :=
  h.add (F := fun _ => False) (Below.refl _ _) (t := row93 (.slice none 0 0) []) ⟨⟨rfl, .inl ⟨rfl, rfl⟩⟩, fun k hk => by simp [Value.ownBlock] at hk⟩ (fun _ h => h.elim)
theorem sit_own93 {w0 W : World} {T : List Thing} {v : Value} {L : List S93} (h : Sit w0 W (row93 v L :: T)) : W.ownsRow 0 93 3 v L.length (flat93 L) := by
  obtain ⟨hb, F, k1, k2, k3⟩ := h
  exact k1.1
theorem sit_apart93 {w0 W : World} {T : List Thing} {v : Value} {L : List S93} {b : Nat} {o : Obj} (h : Sit w0 W (row93 v L :: .blk b o :: T)) : some b ≠ v.ownBlock := by
  obtain ⟨hb, F, k1, k2, G, k3, k4, k5⟩ := h
  intro e
  exact (k4 b ((k3.2 b).2 rfl)).2.2 (.inr (k1.2 b e.symm))
/-- What a reader reads of one. -/
def getLine1 (s : Bool × List Int) : (Bool × List Int) × S93 := (getN (getN (getN s)), ⟨(getNum s.2).v, (getNum (getN s).2).v, (getNum (getN (getN s)).2).v⟩)
def getLineN (s : Bool × List Int) : Nat → (Bool × List Int) × List S93
  | 0 => (s, [])
  | j + 1 => ((getLine1 (getLineN s j).1).1, (getLineN s j).2 ++ [(getLine1 (getLineN s j).1).2])
theorem getLineN_len (s : Bool × List Int) : ∀ j, (getLineN s j).2.length = j
  | 0 => rfl
  | j + 1 => by simp only [getLineN, List.length_append, getLineN_len s j, List.length_singleton]
def getLines (s : Bool × List Int) : (Bool × List Int) × List S93 := getLineN (getM 4 s) (manyOf 4 s).toNat
set_option maxRecDepth 100000 in
set_option maxHeartbeats 16000000 in
theorem rlines {w0 W : World} {T : List Thing} {g r b i : Nat} {S : Bool × List Int} {cs : Array Value} {e : TypeId} (h : Sit w0 W (.inn g S.2 :: .blk r (rdr g S.1) :: .blk b (.cells cs e (0, 0)) :: T)) (hi : cs[i]? = some (.slice none 0 0)) :
    Calls Try.prog 49 #[.pointer (some ⟨r, 0, none⟩), .pointer (some ⟨b, i, none⟩)] W fun e' w' => e' = .returned (.tuple #[]) ∧ ∃ v, Sit w0 w' (.inn g (getLines S).1.2 :: .blk r (rdr g (getLines S).1.1) :: .blk b (.cells (cs.setIfInBounds i v) e (0, 0)) :: row93 v (getLines S).2 :: T) := by
  have HI := Aside0.mk (fun v => set_at hi v)
  have h0 := set_same hi
  have pn := rmany (s := S) 4 h
  have hm : manyOf 4 S ≤ 4 := by unfold manyOf; split <;> omega
  obtain ⟨m, hM⟩ : ∃ m, m = manyOf 4 S := ⟨_, rfl⟩
  obtain ⟨s0, hS0⟩ : ∃ s0, s0 = getM 4 S := ⟨_, rfl⟩
  have hfin : getLines S = getLineN s0 m.toNat := by unfold getLines; rw [hM, hS0]
  rw [hfin]
  rw [← hS0, ← hM] at pn
  rw [← hM] at hm
  clear hfin hM hS0
  have PN := Aside0.mk pn
  have HM := Aside0.mk hm
  clear h hi pn hm
  go_enter Try.func49, Try.ntmps49
  go_wp2_with (go_at_call 61; with_reducible refine PN.out.mono ?_; rintro e' w1 ⟨rfl, hs⟩; have HS : Aside0 (Sit w0 w1 (.inn g (getLineN s0 0).1.2 :: .blk r (rdr g (getLineN s0 0).1.1) :: .blk b (.cells (cs.setIfInBounds i (.slice none 0 0)) e (0, 0)) :: row93 (.slice none 0 0) (getLineN s0 0).2 :: T)) := ⟨by rw [h0]; exact ((sit_nil93 hs).perm (shB _ _ _ _ _))⟩; clear hs)
  clear h0 PN
  go_loopg [7] (m.toNat + 1) (fun kq v7 w' => ∃ (I : Int) (j : Nat) (v : Value), v7 = .int .i64 I ∧ Aside0 (I = (j : Int) ∧ kq + j = m.toNat + 1 ∧ j ≤ m.toNat) ∧ Aside0 (Sit w0 w' (.inn g (getLineN s0 j).1.2 :: .blk r (rdr g (getLineN s0 j).1.1) :: .blk b (.cells (cs.setIfInBounds i v) e (0, 0)) :: row93 v (getLineN s0 j).2 :: T)))
  case atStart => exact ⟨0, 0, _, rfl, ⟨⟨rfl, rfl, Nat.zero_le _⟩⟩, HS⟩
  case round =>
    clear HS
    obtain ⟨I, j, v, rfl, HA, HS⟩ := hrel
    cases gk with
    | zero => exact absurd HA.out.2 (by omega)
    | succ k1 =>
      by_cases hi : I < m
      · have p1 : decide (I < m) = true := decide_eq_true hi
        have p3 : (I < m) = True := eq_true hi
        have hw9 : Aside0 (wrap64 (I + 1) = ((j + 1 : Nat) : Int)) := ⟨by have h3 := HA.out.1; have h4 := HM.out; unfold wrap64; omega⟩
        have hlen := getLineN_len s0 j
        have hsuc : getLineN s0 (j + 1) = ((getLine1 (getLineN s0 j).1).1, (getLineN s0 j).2 ++ [(getLine1 (getLineN s0 j).1).2]) := rfl
        obtain ⟨s, hs1⟩ : ∃ s, s = (getLineN s0 j).1 := ⟨_, rfl⟩
        obtain ⟨L, hL1⟩ : ∃ L, L = (getLineN s0 j).2 := ⟨_, rfl⟩
        rw [← hs1, ← hL1] at hsuc
        have hSit := HS.out
        rw [← hs1, ← hL1] at hSit
        have HLen : Aside0 (L.length ≤ 4) := ⟨by rw [hL1, hlen]; have h3 := HA.out.2.2; have h4 := HM.out; omega⟩
        obtain ⟨y, hy⟩ : ∃ y, y = (getLine1 s).2 := ⟨_, rfl⟩
        rw [← hy] at hsuc
        have hyy : (#[.int .i64 y.f0, .int .i64 y.f1, .int .i64 y.f2] : Array Value) = #[.int .i64 (getNum s.2).v, .int .i64 (getNum (getN s).2).v, .int .i64 (getNum (getN (getN s)).2).v] := by rw [hy]; rfl
        have HY := Aside0.mk hyy
        have HQ := Aside0.mk hsuc
        have HB := Aside0.mk ((hSit.alloc #[.int .i64 0, .int .i64 0, .int .i64 0] 93).rot.rot)
        have pn1 := rnumP (s := s) (i := 0) (x := 0) HB.out rfl
        have pn2 := fun (W' : World) (h' : Sit w0 W' (.inn g (getN s).2 :: .blk r (rdr g (getN s).1) :: .blk wr.heap.size (.cells #[.int .i64 (getNum s.2).v, .int .i64 0, .int .i64 0] 93 (0, 0)) :: .blk b (.cells (cs.setIfInBounds i v) e (0, 0)) :: row93 v L :: T)) => rnumP (s := (getN s)) (i := 1) (x := 0) h' rfl
        have pn3 := fun (W' : World) (h' : Sit w0 W' (.inn g (getN (getN s)).2 :: .blk r (rdr g (getN (getN s)).1) :: .blk wr.heap.size (.cells #[.int .i64 (getNum s.2).v, .int .i64 (getNum (getN s).2).v, .int .i64 0] 93 (0, 0)) :: .blk b (.cells (cs.setIfInBounds i v) e (0, 0)) :: row93 v L :: T)) => rnumP (s := (getN (getN s))) (i := 2) (x := 0) h' rfl
        have P1 := Aside0.mk pn1
        have P2 := Aside0.mk pn2
        have P3 := Aside0.mk pn3
        clear hlen hsuc hs1 hL1 hSit hy hyy pn1 pn2 pn3 hi
        go_wp2_with (first | (go_at_call 23; (with_reducible refine (P3.out _ H2.out).mono ?_); rintro e' w4 ⟨rfl, hs⟩; have H3 : Aside0 (Sit w0 w4 (.inn g (getLine1 s).1.2 :: .blk r (rdr g (getLine1 s).1.1) :: .blk wr.heap.size (.cells #[.int .i64 y.f0, .int .i64 y.f1, .int .i64 y.f2] 93 (0, 0)) :: .blk b (.cells (cs.setIfInBounds i v) e (0, 0)) :: row93 v L :: T)) := ⟨by rw [HY.out]; exact hs⟩; obtain ⟨x0, -⟩ := sit_cell (i := 0) (v := .int .i64 y.f0) H3.out.rot rfl; obtain ⟨x1, -⟩ := sit_cell (i := 1) (v := .int .i64 y.f1) H3.out.rot rfl; obtain ⟨x2, -⟩ := sit_cell (i := 2) (v := .int .i64 y.f2) H3.out.rot rfl; obtain ⟨y0, yf0⟩ := sit_cell (i := i) (v := v) H3.out.rot4 (HI.out v); have HO := Aside0.mk (sit_own93 (H3.out.perm (sh5 _ _ _ _ _ _))); have hap := sit_apart93 ((H3.out.perm (sh5 _ _ _ _ _ _)).swap45); have HLn := HLen; have hbl := H3.out.rot4.blk.2.1; clear hs) | (go_at_call 23; (with_reducible refine (P2.out _ H1.out).mono ?_); rintro e' w3 ⟨rfl, hs⟩; have H2 := Aside0.mk hs; clear hs) | (go_at_call 23; (with_reducible refine P1.out.mono ?_); rintro e' w2 ⟨rfl, hs⟩; have H1 := Aside0.mk hs; clear hs))
        go_region_law (refine step_append_cells (w0 := w4) (W := w4.drew) 0 (by rfl) (.tmp 21) (.tmp 23) 24 93 (.agg #[.int .i64 0, .int .i64 0, .int .i64 0]) 3 24 (by rfl) Try.underlying24 info93 rfl (by decide) (by decide) v L.length (flat93 L) (cells93 y) (by rfl) (by rfl) rfl (by simp [cells93, Value.oneCell']) HO.out ⟨rfl, rfl, rfl, Nat.le_refl _, fun _ _ => rfl⟩ (Nat.zero_le _) (by have := HLn.out; omega) ?_; intro v1 w9 ho hb hg hat; obtain ⟨A1, c1, rfl⟩ := own_slice ho; have hq0 : w9.cell? ⟨b, i, none⟩ = some v := hg.cell (a := ⟨b, i, none⟩) y0 hap; have hq1 : w9.frozen? ⟨b, i, none⟩ = false := (World.frozen?_of_block (hg.block b hbl hap)).trans yf0; have HZ := Aside0.mk (And.intro ho (And.intro hg hat)); clear ho hg hat hb)
        all_goals
          go_wp2
          go_roundg k1
          case measure => omega
          case rel => exact ⟨_, j + 1, _, rfl, ⟨hw9.out, by have h1 := HA.out; omega, by have h1 := HA.out; have h2 := of_eq_true p3; omega⟩, ⟨by rw [HQ.out, ← set_set v]; exact (((sit_append93 H3.out.rot.tail.rot4.drew HZ.out.1 HZ.out.2.1 HZ.out.2.2).rot4.set i _).rot4.rot4)⟩⟩
      · have p1 : decide (I < m) = false := decide_eq_false hi
        have hjn : j = m.toNat := by have := HA.out; omega
        go_wp2
        go_end0
        exact ⟨rfl, v, by rw [← hjn]; exact HS.out⟩
theorem info76 : (Try.prog.info? 76).map (fun i => (i.zero, i.size, i.bytes)) = some (some (.agg #[.int .i64 0, .int .i64 0, .int .i64 0, .int .i64 0]), 4, 32) := by kernel_rfl
def cells76 (y : S76) : List Value := [.int .i64 y.f0, .int .i64 y.f1, .int .i64 y.f2, .int .i64 y.f3]
def flat76 (L : List S76) : List Value := L.flatMap cells76
theorem flat76_snoc (L : List S76) (y : S76) : flat76 (L ++ [y]) = flat76 L ++ cells76 y := by simp [flat76]
/-- A row of its own. -/
def At76 (v : Value) (L : List S76) (W : World) (F : Nat → Prop) : Prop := W.ownsRow 0 76 4 v L.length (flat76 L) ∧ ∀ k, v.ownBlock = some k → F k
theorem At76.moves (v : Value) (L : List S76) : Moves (At76 v L) := fun h hw hn => ⟨own_move h.1 (fun k hk => by
  have h1 := own_lt h.1 k hk
  exact hw.kept.2 k h1 (hn k (h.2 k hk))), h.2⟩
abbrev row76 (v : Value) (L : List S76) : Thing := .gen (At76 v L) (At76.moves v L)
theorem sit_append76 {w0 W w1 : World} {T : List Thing} {v v1 : Value} {L : List S76} {y : S76} (h : Sit w0 W (row76 v L :: T)) (ho : w1.ownsRow 0 76 4 v1 (L.length + 1) (flat76 L ++ cells76 y)) (hg : W.grownBy w1 v.ownBlock) (hat : v1.ownBlock = v.ownBlock ∨ ∃ b, v1.ownBlock = some b ∧ W.heap.size ≤ b) : Sit w0 w1 (row76 v1 (L ++ [y]) :: T) := by
  obtain ⟨hb, F, k1, k2, k3⟩ := h
  have hlt := own_lt ho
  refine Sit.turn (t := row76 v L) (F := F) (F' := fun k => v1.ownBlock = some k) hb k2 k3 ?_ ?_ (Went.grown (Went.refl F W) hg (fun k hk => .inl (k1.2 k hk)))
  · refine ⟨?_, fun _ h => h⟩
    rw [List.length_append, flat76_snoc]; exact ho
  · intro k hk
    refine ⟨?_, hlt k hk⟩
    rcases hat with e | ⟨b, e, hb⟩
    · exact .inl (k1.2 k (e ▸ hk))
    · rw [hk] at e; cases e; exact .inr hb
theorem sit_nil76 {w0 W : World} {T : List Thing} (h : Sit w0 W T) : Sit w0 W (row76 (.slice none 0 0) [] :: T) :=
  h.add (F := fun _ => False) (Below.refl _ _) (t := row76 (.slice none 0 0) []) ⟨⟨rfl, .inl ⟨rfl, rfl⟩⟩, fun k hk => by simp [Value.ownBlock] at hk⟩ (fun _ h => h.elim)
theorem sit_own76 {w0 W : World} {T : List Thing} {v : Value} {L : List S76} (h : Sit w0 W (row76 v L :: T)) : W.ownsRow 0 76 4 v L.length (flat76 L) := by
  obtain ⟨hb, F, k1, k2, k3⟩ := h
  exact k1.1
theorem sit_apart76 {w0 W : World} {T : List Thing} {v : Value} {L : List S76} {b : Nat} {o : Obj} (h : Sit w0 W (row76 v L :: .blk b o :: T)) : some b ≠ v.ownBlock := by
  obtain ⟨hb, F, k1, k2, G, k3, k4, k5⟩ := h
  intro e
  exact (k4 b ((k3.2 b).2 rfl)).2.2 (.inr (k1.2 b e.symm))
/-- What a reader reads of one. -/
def getEntry1 (s : Bool × List Int) : (Bool × List Int) × S76 := (getI (getN (getN (getN s))), ⟨(getNum s.2).v, (getNum (getN s).2).v, (getNum (getN (getN s)).2).v, (getInt (getN (getN (getN s))).2).v⟩)
def getEntryN (s : Bool × List Int) : Nat → (Bool × List Int) × List S76
  | 0 => (s, [])
  | j + 1 => ((getEntry1 (getEntryN s j).1).1, (getEntryN s j).2 ++ [(getEntry1 (getEntryN s j).1).2])
theorem getEntryN_len (s : Bool × List Int) : ∀ j, (getEntryN s j).2.length = j
  | 0 => rfl
  | j + 1 => by simp only [getEntryN, List.length_append, getEntryN_len s j, List.length_singleton]
def getEntrys (s : Bool × List Int) : (Bool × List Int) × List S76 := getEntryN (getM 8 s) (manyOf 8 s).toNat
set_option maxRecDepth 100000 in
set_option maxHeartbeats 16000000 in
theorem rentrys {w0 W : World} {T : List Thing} {g r b i : Nat} {S : Bool × List Int} {cs : Array Value} {e : TypeId} (h : Sit w0 W (.inn g S.2 :: .blk r (rdr g S.1) :: .blk b (.cells cs e (0, 0)) :: T)) (hi : cs[i]? = some (.slice none 0 0)) :
    Calls Try.prog 50 #[.pointer (some ⟨r, 0, none⟩), .pointer (some ⟨b, i, none⟩)] W fun e' w' => e' = .returned (.tuple #[]) ∧ ∃ v, Sit w0 w' (.inn g (getEntrys S).1.2 :: .blk r (rdr g (getEntrys S).1.1) :: .blk b (.cells (cs.setIfInBounds i v) e (0, 0)) :: row76 v (getEntrys S).2 :: T) := by
  have HI := Aside0.mk (fun v => set_at hi v)
  have h0 := set_same hi
  have pn := rmany (s := S) 8 h
  have hm : manyOf 8 S ≤ 8 := by unfold manyOf; split <;> omega
  obtain ⟨m, hM⟩ : ∃ m, m = manyOf 8 S := ⟨_, rfl⟩
  obtain ⟨s0, hS0⟩ : ∃ s0, s0 = getM 8 S := ⟨_, rfl⟩
  have hfin : getEntrys S = getEntryN s0 m.toNat := by unfold getEntrys; rw [hM, hS0]
  rw [hfin]
  rw [← hS0, ← hM] at pn
  rw [← hM] at hm
  clear hfin hM hS0
  have PN := Aside0.mk pn
  have HM := Aside0.mk hm
  clear h hi pn hm
  go_enter Try.func50, Try.ntmps50
  go_wp2_with (go_at_call 61; with_reducible refine PN.out.mono ?_; rintro e' w1 ⟨rfl, hs⟩; have HS : Aside0 (Sit w0 w1 (.inn g (getEntryN s0 0).1.2 :: .blk r (rdr g (getEntryN s0 0).1.1) :: .blk b (.cells (cs.setIfInBounds i (.slice none 0 0)) e (0, 0)) :: row76 (.slice none 0 0) (getEntryN s0 0).2 :: T)) := ⟨by rw [h0]; exact ((sit_nil76 hs).perm (shB _ _ _ _ _))⟩; clear hs)
  clear h0 PN
  go_loopg [7] (m.toNat + 1) (fun kq v7 w' => ∃ (I : Int) (j : Nat) (v : Value), v7 = .int .i64 I ∧ Aside0 (I = (j : Int) ∧ kq + j = m.toNat + 1 ∧ j ≤ m.toNat) ∧ Aside0 (Sit w0 w' (.inn g (getEntryN s0 j).1.2 :: .blk r (rdr g (getEntryN s0 j).1.1) :: .blk b (.cells (cs.setIfInBounds i v) e (0, 0)) :: row76 v (getEntryN s0 j).2 :: T)))
  case atStart => exact ⟨0, 0, _, rfl, ⟨⟨rfl, rfl, Nat.zero_le _⟩⟩, HS⟩
  case round =>
    clear HS
    obtain ⟨I, j, v, rfl, HA, HS⟩ := hrel
    cases gk with
    | zero => exact absurd HA.out.2 (by omega)
    | succ k1 =>
      by_cases hi : I < m
      · have p1 : decide (I < m) = true := decide_eq_true hi
        have p3 : (I < m) = True := eq_true hi
        have hw9 : Aside0 (wrap64 (I + 1) = ((j + 1 : Nat) : Int)) := ⟨by have h3 := HA.out.1; have h4 := HM.out; unfold wrap64; omega⟩
        have hlen := getEntryN_len s0 j
        have hsuc : getEntryN s0 (j + 1) = ((getEntry1 (getEntryN s0 j).1).1, (getEntryN s0 j).2 ++ [(getEntry1 (getEntryN s0 j).1).2]) := rfl
        obtain ⟨s, hs1⟩ : ∃ s, s = (getEntryN s0 j).1 := ⟨_, rfl⟩
        obtain ⟨L, hL1⟩ : ∃ L, L = (getEntryN s0 j).2 := ⟨_, rfl⟩
        rw [← hs1, ← hL1] at hsuc
        have hSit := HS.out
        rw [← hs1, ← hL1] at hSit
        have HLen : Aside0 (L.length ≤ 8) := ⟨by rw [hL1, hlen]; have h3 := HA.out.2.2; have h4 := HM.out; omega⟩
        obtain ⟨y, hy⟩ : ∃ y, y = (getEntry1 s).2 := ⟨_, rfl⟩
        rw [← hy] at hsuc
        have hyy : (#[.int .i64 y.f0, .int .i64 y.f1, .int .i64 y.f2, .int .i64 y.f3] : Array Value) = #[.int .i64 (getNum s.2).v, .int .i64 (getNum (getN s).2).v, .int .i64 (getNum (getN (getN s)).2).v, .int .i64 (getInt (getN (getN (getN s))).2).v] := by rw [hy]; rfl
        have HY := Aside0.mk hyy
        have HQ := Aside0.mk hsuc
        have HB := Aside0.mk ((hSit.alloc #[.int .i64 0, .int .i64 0, .int .i64 0, .int .i64 0] 76).rot.rot)
        have pn1 := rnumP (s := s) (i := 0) (x := 0) HB.out rfl
        have pn2 := fun (W' : World) (h' : Sit w0 W' (.inn g (getN s).2 :: .blk r (rdr g (getN s).1) :: .blk wr.heap.size (.cells #[.int .i64 (getNum s.2).v, .int .i64 0, .int .i64 0, .int .i64 0] 76 (0, 0)) :: .blk b (.cells (cs.setIfInBounds i v) e (0, 0)) :: row76 v L :: T)) => rnumP (s := (getN s)) (i := 1) (x := 0) h' rfl
        have pn3 := fun (W' : World) (h' : Sit w0 W' (.inn g (getN (getN s)).2 :: .blk r (rdr g (getN (getN s)).1) :: .blk wr.heap.size (.cells #[.int .i64 (getNum s.2).v, .int .i64 (getNum (getN s).2).v, .int .i64 0, .int .i64 0] 76 (0, 0)) :: .blk b (.cells (cs.setIfInBounds i v) e (0, 0)) :: row76 v L :: T)) => rnumP (s := (getN (getN s))) (i := 2) (x := 0) h' rfl
        have pn4 := fun (W' : World) (h' : Sit w0 W' (.inn g (getN (getN (getN s))).2 :: .blk r (rdr g (getN (getN (getN s))).1) :: .blk wr.heap.size (.cells #[.int .i64 (getNum s.2).v, .int .i64 (getNum (getN s).2).v, .int .i64 (getNum (getN (getN s)).2).v, .int .i64 0] 76 (0, 0)) :: .blk b (.cells (cs.setIfInBounds i v) e (0, 0)) :: row76 v L :: T)) => rwholeP (s := (getN (getN (getN s)))) (i := 3) (x := 0) h' rfl
        have P1 := Aside0.mk pn1
        have P2 := Aside0.mk pn2
        have P3 := Aside0.mk pn3
        have P4 := Aside0.mk pn4
        clear hlen hsuc hs1 hL1 hSit hy hyy pn1 pn2 pn3 pn4 hi
        go_wp2_with (first | (go_at_call 48; (with_reducible refine (P4.out _ H3.out).mono ?_); rintro e' w5 ⟨rfl, hs⟩; have H4 : Aside0 (Sit w0 w5 (.inn g (getEntry1 s).1.2 :: .blk r (rdr g (getEntry1 s).1.1) :: .blk wr.heap.size (.cells #[.int .i64 y.f0, .int .i64 y.f1, .int .i64 y.f2, .int .i64 y.f3] 76 (0, 0)) :: .blk b (.cells (cs.setIfInBounds i v) e (0, 0)) :: row76 v L :: T)) := ⟨by rw [HY.out]; exact hs⟩; obtain ⟨x0, -⟩ := sit_cell (i := 0) (v := .int .i64 y.f0) H4.out.rot rfl; obtain ⟨x1, -⟩ := sit_cell (i := 1) (v := .int .i64 y.f1) H4.out.rot rfl; obtain ⟨x2, -⟩ := sit_cell (i := 2) (v := .int .i64 y.f2) H4.out.rot rfl; obtain ⟨x3, -⟩ := sit_cell (i := 3) (v := .int .i64 y.f3) H4.out.rot rfl; obtain ⟨y0, yf0⟩ := sit_cell (i := i) (v := v) H4.out.rot4 (HI.out v); have HO := Aside0.mk (sit_own76 (H4.out.perm (sh5 _ _ _ _ _ _))); have hap := sit_apart76 ((H4.out.perm (sh5 _ _ _ _ _ _)).swap45); have HLn := HLen; have hbl := H4.out.rot4.blk.2.1; clear hs) | (go_at_call 23; (with_reducible refine (P3.out _ H2.out).mono ?_); rintro e' w4 ⟨rfl, hs⟩; have H3 := Aside0.mk hs; clear hs) | (go_at_call 23; (with_reducible refine (P2.out _ H1.out).mono ?_); rintro e' w3 ⟨rfl, hs⟩; have H2 := Aside0.mk hs; clear hs) | (go_at_call 23; (with_reducible refine P1.out.mono ?_); rintro e' w2 ⟨rfl, hs⟩; have H1 := Aside0.mk hs; clear hs))
        go_region_law (refine step_append_cells (w0 := w5) (W := w5.drew) 0 (by rfl) (.tmp 24) (.tmp 26) 36 76 (.agg #[.int .i64 0, .int .i64 0, .int .i64 0, .int .i64 0]) 4 32 (by rfl) Try.underlying36 info76 rfl (by decide) (by decide) v L.length (flat76 L) (cells76 y) (by rfl) (by rfl) rfl (by simp [cells76, Value.oneCell']) HO.out ⟨rfl, rfl, rfl, Nat.le_refl _, fun _ _ => rfl⟩ (Nat.zero_le _) (by have := HLn.out; omega) ?_; intro v1 w9 ho hb hg hat; obtain ⟨A1, c1, rfl⟩ := own_slice ho; have hq0 : w9.cell? ⟨b, i, none⟩ = some v := hg.cell (a := ⟨b, i, none⟩) y0 hap; have hq1 : w9.frozen? ⟨b, i, none⟩ = false := (World.frozen?_of_block (hg.block b hbl hap)).trans yf0; have HZ := Aside0.mk (And.intro ho (And.intro hg hat)); clear ho hg hat hb)
        all_goals
          go_wp2
          go_roundg k1
          case measure => omega
          case rel => exact ⟨_, j + 1, _, rfl, ⟨hw9.out, by have h1 := HA.out; omega, by have h1 := HA.out; have h2 := of_eq_true p3; omega⟩, ⟨by rw [HQ.out, ← set_set v]; exact (((sit_append76 H4.out.rot.tail.rot4.drew HZ.out.1 HZ.out.2.1 HZ.out.2.2).rot4.set i _).rot4.rot4)⟩⟩
      · have p1 : decide (I < m) = false := decide_eq_false hi
        have hjn : j = m.toNat := by have := HA.out; omega
        go_wp2
        go_end0
        exact ⟨rfl, v, by rw [← hjn]; exact HS.out⟩
end Go.Proofs.Ytgdelfckhcgnhaa.Code

namespace Go.Proofs.Ytgdelfckhcgnhaa.Code
open Go.RowKit Go.Proofs.Ytgdelfckhcgnhaa.Pa Go.Proofs.YtgdelfckhcgnhaaW.PrintWords Go.Proofs.YtgdelfckhcgnhaaW.PrintLast Go.Proofs.YtgdelfckhcgnhaaW.PrintMore
set_option linter.unusedVariables false
set_option linter.unusedSimpArgs false

/-- The four functions of a way. -/
def wayC (a b c d q : Nat) : Array Value := #[.func (.func a) #[.pointer (some ⟨q, 0, none⟩)] #[], .func (.func b) #[.pointer (some ⟨q, 0, none⟩)] #[], .func (.func c) #[.pointer (some ⟨q, 0, none⟩)] #[], .func (.func d) #[.pointer (some ⟨q, 0, none⟩)] #[]]
set_option maxRecDepth 100000 in
set_option maxHeartbeats 4000000 in
theorem wway {w0 W : World} {T : List Thing} (q : Nat) (h : Sit w0 W T) : Calls Try.prog 30 #[.pointer (some ⟨q, 0, none⟩)] W fun e' w' => e' = .returned (.agg (wayC 29 52 53 54 q)) ∧ Sit w0 w' T := by
  go_enter Try.func30, Try.ntmps30
  go_wp2
  refine bodyPost_ret (results_cell_row rfl _ _ W.heap.size 58 (wayC 29 52 53 54 q) (0, 0) _ rfl (heap_alloc_new W _) Try.underlying58 rfl (by rfl)) rfl ?_
  exact ⟨rfl, h.skip _⟩
set_option maxRecDepth 100000 in
set_option maxHeartbeats 4000000 in
theorem rway {w0 W : World} {T : List Thing} (q : Nat) (h : Sit w0 W T) : Calls Try.prog 25 #[.pointer (some ⟨q, 0, none⟩)] W fun e' w' => e' = .returned (.agg (wayC 23 48 49 50 q)) ∧ Sit w0 w' T := by
  go_enter Try.func25, Try.ntmps25
  go_wp2
  refine bodyPost_ret (results_cell_row rfl _ _ W.heap.size 58 (wayC 23 48 49 50 q) (0, 0) _ rfl (heap_alloc_new W _) Try.underlying58 rfl (by rfl)) rfl ?_
  exact ⟨rfl, h.skip _⟩

/-! #### Either way -/
theorem Sit.hd {w0 W : World} {A T : List Thing} {X : Thing} (h : Sit w0 W (A ++ X :: T)) : Sit w0 W (X :: (A ++ T)) := h.perm List.perm_middle
theorem Sit.hd2 {w0 W : World} {A T : List Thing} {B X : Thing} (h : Sit w0 W (A ++ B :: X :: T)) : Sit w0 W (X :: (A ++ B :: T)) := h.perm (by
  have h1 : (A ++ B :: X :: T).Perm (A ++ X :: B :: T) := (List.Perm.swap X B T).append_left A
  exact h1.trans List.perm_middle)
theorem Sit.ins {w0 W : World} {A T : List Thing} {B X : Thing} (h : Sit w0 W (X :: (A ++ B :: T))) : Sit w0 W (A ++ B :: X :: T) := h.perm (by
  have h1 : (A ++ X :: B :: T).Perm (A ++ B :: X :: T) := (List.Perm.swap B X T).append_left A
  exact List.perm_middle.symm.trans h1)
/-- A request's cells. -/
def cs26 (ns : List Int) (v : Value) : Array Value := ((ns.map (Value.int .i64)) ++ [v]).toArray
theorem cs26_at {ns : List Int} {v : Value} {i : Nat} (h : i < ns.length) : (cs26 ns v)[i]? = some (.int .i64 (ns.getD i 0)) := by
  unfold cs26
  simp only [List.getElem?_toArray]
  rw [List.getElem?_append_left (by simpa using h)]
  simp [h]
theorem cs26_last {ns : List Int} {v : Value} : (cs26 ns v)[ns.length]? = some v := by
  unfold cs26
  simp only [List.getElem?_toArray]
  rw [List.getElem?_append_right (by simp)]
  simp
theorem cs26_set {ns : List Int} {v : Value} {i : Nat} (h : i < ns.length) (x : Int) : (cs26 ns v).setIfInBounds i (.int .i64 x) = cs26 (ns.set i x) v := by
  unfold cs26
  rw [List.setIfInBounds_toArray, List.set_append_left _ _ (by simpa using h), List.map_set]
theorem cs26_put {ns : List Int} {v : Value} {k : Nat} (h : k = ns.length) (u : Value) : (cs26 ns v).setIfInBounds k u = cs26 ns u := by
  subst h
  unfold cs26
  rw [List.setIfInBounds_toArray, List.set_append_right _ _ (by simp)]
  simp
/-- A way to go through fields: what it does to its own state, and to a field. -/
structure Way (w0 : World) where
  σ : Type
  H : σ → List Thing
  ok : Nat → σ → Prop
  inr : Int → Prop
  q : Nat
  nf : Nat
  nw : Nat
  nl : Nat
  ne : Nat
  eF : ∀ (args : Array Value) (w : World), Sem.run Try.prog (callFunc nf args) w = .ok (.enter nf args) w
  eW : ∀ (args : Array Value) (w : World), Sem.run Try.prog (callFunc nw args) w = .ok (.enter nw args) w
  eL : ∀ (args : Array Value) (w : World), Sem.run Try.prog (callFunc nl args) w = .ok (.enter nl args) w
  eE : ∀ (args : Array Value) (w : World), Sem.run Try.prog (callFunc ne args) w = .ok (.enter ne args) w
  num : σ → Int → σ × Int
  whole : σ → Int → σ × Int
  lin : σ → List S93 → σ × List S93
  ent : σ → List S76 → σ × List S76
  pre : Value → List S93 → Prop
  pre4 : Value → List S76 → Prop
  cnum : ∀ {W : World} {T : List Thing} {b i k : Nat} {cs : Array Value} {e : TypeId} {x : Int} {s : σ}, ok (k + 1) s → inr x → cs[i]? = some (.int .i64 x) → Sit w0 W (H s ++ .blk b (.cells cs e (0, 0)) :: T) → Calls Try.prog nf #[.pointer (some ⟨q, 0, none⟩), .pointer (some ⟨b, i, none⟩)] W fun e' w' => e' = .returned (.tuple #[]) ∧ Sit w0 w' (H (num s x).1 ++ .blk b (.cells (cs.setIfInBounds i (.int .i64 (num s x).2)) e (0, 0)) :: T)
  onum : ∀ {k : Nat} {s : σ} {x : Int}, ok (k + 1) s → inr x → ok k (num s x).1
  inum : ∀ {s : σ} {x : Int}, inr x → inr (num s x).2
  cwhole : ∀ {W : World} {T : List Thing} {b i k : Nat} {cs : Array Value} {e : TypeId} {x : Int} {s : σ}, ok (k + 1) s → inr x → cs[i]? = some (.int .i64 x) → Sit w0 W (H s ++ .blk b (.cells cs e (0, 0)) :: T) → Calls Try.prog nw #[.pointer (some ⟨q, 0, none⟩), .pointer (some ⟨b, i, none⟩)] W fun e' w' => e' = .returned (.tuple #[]) ∧ Sit w0 w' (H (whole s x).1 ++ .blk b (.cells (cs.setIfInBounds i (.int .i64 (whole s x).2)) e (0, 0)) :: T)
  owhole : ∀ {k : Nat} {s : σ} {x : Int}, ok (k + 1) s → inr x → ok k (whole s x).1
  iwhole : ∀ {s : σ} {x : Int}, inr x → inr (whole s x).2
  clin : ∀ {W : World} {T : List Thing} {b i k : Nat} {cs : Array Value} {e : TypeId} {v : Value} {L : List S93} {s : σ}, ok (k + 1) s → pre v L → cs[i]? = some v → Sit w0 W (H s ++ .blk b (.cells cs e (0, 0)) :: T) → Calls Try.prog nl #[.pointer (some ⟨q, 0, none⟩), .pointer (some ⟨b, i, none⟩)] W fun e' w' => e' = .returned (.tuple #[]) ∧ ∃ v', Sit w0 w' (H (lin s L).1 ++ .blk b (.cells (cs.setIfInBounds i v') e (0, 0)) :: row93 v' (lin s L).2 :: T)
  olin : ∀ {k : Nat} {s : σ} {v : Value} {L : List S93}, ok (k + 1) s → pre v L → ok k (lin s L).1
  cent : ∀ {W : World} {T : List Thing} {b i k : Nat} {cs : Array Value} {e : TypeId} {v : Value} {L : List S76} {s : σ}, ok (k + 1) s → pre4 v L → cs[i]? = some v → Sit w0 W (H s ++ .blk b (.cells cs e (0, 0)) :: T) → Calls Try.prog ne #[.pointer (some ⟨q, 0, none⟩), .pointer (some ⟨b, i, none⟩)] W fun e' w' => e' = .returned (.tuple #[]) ∧ ∃ v', Sit w0 w' (H (ent s L).1 ++ .blk b (.cells (cs.setIfInBounds i v') e (0, 0)) :: row76 v' (ent s L).2 :: T)
/-- A writer's way. -/
def Way.w (w0 : World) (q : Nat) : Way w0 where
  σ := Bool × List Int
  H s := [.out s.1 q s.2]
  ok k s := s.2.length + 1000 * k ≤ 1000000
  inr x := -9223372036854775808 ≤ x ∧ x < 9223372036854775808
  q := q
  nf := 29
  nw := 52
  nl := 53
  ne := 54
  eF _ _ := rfl
  eW _ _ := rfl
  eL _ _ := rfl
  eE _ _ := rfl
  num s x := (putN s x, 0)
  whole s x := (putI s x, 0)
  lin s L := (putLines s L, [])
  ent s L := (putEntries s L, [])
  pre v L := ∃ A c, v = .slice A L.length c ∧ Kd.C k93 w0 A L.length L ∧ L.length ≤ c ∧ (∀ y ∈ L, Lim3 y) ∧ L.length ≤ 20
  pre4 v L := ∃ A c, v = .slice A L.length c ∧ Kd.C k76 w0 A L.length L ∧ L.length ≤ c ∧ (∀ y ∈ L, Lim4 y) ∧ L.length ≤ 20
  cnum := fun ho hx hi h => wnumP _ h hi hx.2 (by omega)
  onum := fun {k s x} ho hx => by have := putN_len (s := s) hx.2; show (putN s x).2.length + 1000 * k ≤ 1000000; omega
  inum := fun _ => ⟨by show (-9223372036854775808 : Int) ≤ 0; decide, by show (0 : Int) < 9223372036854775808; decide⟩
  cwhole := fun ho hx hi h => wwholeP _ h hi hx.1 hx.2 (by omega)
  owhole := fun {k s x} ho hx => by have := putI_len (s := s) hx.1 hx.2; show (putI s x).2.length + 1000 * k ≤ 1000000; omega
  iwhole := fun _ => ⟨by show (-9223372036854775808 : Int) ≤ 0; decide, by show (0 : Int) < 9223372036854775808; decide⟩
  clin := fun {W T b i k cs e v L s} ho hp hi h => by
    obtain ⟨A, c, rfl, h1, h2, h3, h4⟩ := hp
    refine (wlines h hi h1 h2 h3 (by omega) (by omega)).mono ?_
    rintro e' w' ⟨rfl, hs⟩
    exact ⟨rfl, _, (sit_nil93 hs).rot.rot⟩
  olin := fun {k s v L} ho hp => by
    obtain ⟨A, c, rfl, h1, h2, h3, h4⟩ := hp
    have := linesTo_len (s := s) h3 (by omega) L.length (Nat.le_refl _)
    rw [linesTo_all] at this
    show (putLines s L).2.length + 1000 * k ≤ 1000000
    omega
  cent := fun {W T b i k cs e v L s} ho hp hi h => by
    obtain ⟨A, c, rfl, h1, h2, h3, h4⟩ := hp
    refine (wentries h hi h1 h2 h3 (by omega) (by omega)).mono ?_
    rintro e' w' ⟨rfl, hs⟩
    exact ⟨rfl, _, (sit_nil76 hs).rot.rot⟩
/-- A reader's way. -/
def Way.r (w0 : World) (q g : Nat) : Way w0 where
  σ := Bool × List Int
  H s := [.inn g s.2, .blk q (rdr g s.1)]
  ok _ _ := True
  inr _ := True
  q := q
  nf := 23
  nw := 48
  nl := 49
  ne := 50
  eF _ _ := rfl
  eW _ _ := rfl
  eL _ _ := rfl
  eE _ _ := rfl
  num s x := (getN s, (getNum s.2).v)
  whole s x := (getI s, (getInt s.2).v)
  lin s L := getLines s
  ent s L := getEntrys s
  pre v L := v = .slice none 0 0
  pre4 v L := v = .slice none 0 0
  cnum := fun ho hx hi h => rnumP h hi
  onum := fun _ _ => trivial
  inum := fun _ => trivial
  cwhole := fun ho hx hi h => rwholeP h hi
  owhole := fun _ _ => trivial
  iwhole := fun _ => trivial
  clin := fun {W T b i k cs e v L s} ho hp hi h => by
    subst hp
    refine (rlines h hi).mono ?_
    rintro e' w' ⟨rfl, v, hs⟩
    exact ⟨rfl, v, hs⟩
  olin := fun _ _ => trivial
  cent := fun {W T b i k cs e v L s} ho hp hi h => by
    subst hp
    refine (rentrys h hi).mono ?_
    rintro e' w' ⟨rfl, v, hs⟩
    exact ⟨rfl, v, hs⟩
/-- A field gone through. -/
def Way.step {w0 : World} (Y : Way w0) (p : Y.σ × List Int) (i : Nat) : Y.σ × List Int := ((Y.num p.1 (p.2.getD i 0)).1, p.2.set i (Y.num p.1 (p.2.getD i 0)).2)
def Way.steps {w0 : World} (Y : Way w0) (idx : List Nat) (s : Y.σ) (ns : List Int) : Y.σ × List Int := idx.foldl Y.step (s, ns)
theorem Way.steps_succ {w0 : World} (Y : Way w0) {idx : List Nat} {j : Nat} (s : Y.σ) (ns : List Int) (h : j < idx.length) : Y.steps (idx.take (j + 1)) s ns = Y.step (Y.steps (idx.take j) s ns) idx[j] := by
  unfold Way.steps
  rw [List.take_succ_eq_append_getElem h, List.foldl_append]; rfl
theorem Way.step_len {w0 : World} (Y : Way w0) (p : Y.σ × List Int) (i : Nat) : (Y.step p i).2.length = p.2.length := by simp [Way.step]
theorem Way.steps_len {w0 : World} (Y : Way w0) (idx : List Nat) (s : Y.σ) (ns : List Int) : (Y.steps idx s ns).2.length = ns.length := by
  unfold Way.steps
  induction idx generalizing s ns with
  | nil => rfl
  | cons i r ih =>
    rw [List.foldl_cons]
    exact (ih _ _).trans (Y.step_len _ _)
theorem Way.step_inr {w0 : World} (Y : Way w0) {p : Y.σ × List Int} {i : Nat} (hi : i < p.2.length) (h : ∀ x ∈ p.2, Y.inr x) : ∀ x ∈ (Y.step p i).2, Y.inr x := by
  intro x hx
  rcases List.mem_or_eq_of_mem_set hx with h1 | rfl
  · exact h x h1
  · exact Y.inum (h _ (by simp [hi]))
theorem Way.steps_ok {w0 : World} (Y : Way w0) : ∀ (idx : List Nat) {k : Nat} {s : Y.σ} {ns : List Int}, (∀ i ∈ idx, i < ns.length) → Y.ok (k + idx.length) s → (∀ x ∈ ns, Y.inr x) → Y.ok k (Y.steps idx s ns).1 ∧ ∀ x ∈ (Y.steps idx s ns).2, Y.inr x
  | [], k, s, ns, _, h1, h2 => ⟨h1, h2⟩
  | i :: r, k, s, ns, h0, h1, h2 => by
    have hi := h0 i (List.mem_cons_self ..)
    have ho : Y.ok (k + r.length) (Y.step (s, ns) i).1 := Y.onum (x := ns.getD i 0) (by rw [show k + r.length + 1 = k + (i :: r).length by simp; omega]; exact h1) (h2 _ (by simp [hi]))
    have := Way.steps_ok Y r (k := k) (s := (Y.step (s, ns) i).1) (ns := (Y.step (s, ns) i).2) (fun j hj => by rw [Y.step_len]; exact h0 j (List.mem_cons_of_mem _ hj)) ho (Y.step_inr hi h2)
    exact this
end Go.Proofs.Ytgdelfckhcgnhaa.Code
