/- What is got would be put as the same bytes (CodeOnlySaid): the walk. No conditions beside those that each theorem states. -/
import Derived.Test.YtamgeophebillaaCodeOnlyP
import Derived.Deep.RegionWith
namespace Go.Proofs.Ytamgeophebillaa.Code
open Go.RowKit Go.Proofs.Ytamgeophebillaa.Pa Go.Proofs.YtamgeophebillaaW.PrintWords Go.Proofs.YtamgeophebillaaW.PrintLast Go.Proofs.YtamgeophebillaaW.PrintMore
set_option linter.unusedVariables false

theorem drawn_below {w0 w w' : World} (hb : Below w0.heap.size w0 w) (hd : Drawn0 w w') : Below w0.heap.size w0 w' := by
  obtain ⟨m, rfl⟩ := hd
  exact pw_below_drewN hb m
theorem sit_bytes_row {w0 W : World} {T : List Thing} {q g m c : Nat} {A : Option Addr} {bs v left : List Int} (h : Sit w0 W (.row (.slice A m c) v :: .inn g left :: .out q bs :: T)) (hl : bs.length ≤ 549755813888) :
    Calls Try.prog 26 #[.pointer (some ⟨q, 0, none⟩), .slice A m c] W fun e w' => e = .returned (.int .i64 (if 4096 < v.length then 2 else 0)) ∧ Sit w0 w' (.out q (if 4096 < v.length then bs else bs ++ (digs v.length ++ v)) :: .inn g left :: .row (.slice A m c) v :: T) := by
  obtain ⟨r1, r2, r3⟩ := h.row
  subst r1
  refine (sit_bytes h.rot (fun F W' hF hA hW => ?_) r2 hl).mono (fun e w' he => ⟨he.1, he.2.rot.swap.rot.swap.rot.swap⟩)
  obtain ⟨F', h1, h3, _⟩ := hA
  exact (Kd.R_reads' (Kd.R_kept h1 hW.kept (fun k hk hf => (h3 k hk).2.2 (.inr hf)))).2.2
theorem only_same {w0 w6 : World} {T : List Thing} {A6 A : Option Addr} {u c6 c n : Nat} {cs b : List Int} (h : Sit w0 w6 (.row (.slice A6 u c6) cs :: T)) (hO : Kd.C (Kd.int .u8) w0 A (b.take u).length (b.take u) ∧ cs = b.take u ∧ u ≤ b.length ∧ cs.length = u ∧ b.length ≤ c ∧ n = b.length) (hn : (n : Int) ≤ 6000) :
    Calls Try.prog 14 #[.slice A6 u c6, .slice A u c] w6 fun e w' => e = .returned (.bool true) ∧ Drawn0 w6 w' := by
  obtain ⟨h1, h2, h3, h4, h5, h6⟩ := hO
  obtain ⟨r1, r2, r3⟩ := h.row
  have hl : (b.take u).length = u := by rw [List.length_take]; omega
  have hC := Kd.C_below h1 (Below.mono h.below (by omega))
  have hm := Kd.C_max h1
  have p := same_any (c0 := c6) (c1 := c) r3 (by omega) (A1 := A) (b := b.take u) hC (by rw [hl]; omega) (by omega)
  rw [hl, h4, h2] at p
  simpa using p

set_option maxRecDepth 100000 in
set_option maxHeartbeats 8000000 in
theorem only0_bad (A : Option Addr) (n c : Nat) (b : List Int) (k : Int) (w : World) (hn : n = b.length) (hm : n ≤ 6000) (hC : Kd.C (Kd.int .u8) w A b.length b) (hc : b.length ≤ c) (hb : Bytes b) (hk : k = 0) (v : Int) (left : List Int) (e : Int) (hg : getNum b = ⟨v, left, e⟩) (hv0 : 0 ≤ v) (hv1 : v < 9223372036854775808) (he : e ≠ 0) (hL : left = b) :
    Calls Try.prog 6 #[.slice A n c, .int .i64 k] w fun e w' => e = .returned (.bool true) ∧ Below w.heap.size w w' := by
  have heb : (e == 0) = false := by simp [he]
  have heb2 : (e != 0) = true := by simp [he]
  have HNN := Aside0.mk hn
  have HL := Aside0.mk (show left.length = b.length by rw [hL])
  clear he hL
  subst hk
  have hlen : (n : Int) ≤ 6000 := by omega
  have HC := Aside0.mk (And.intro hC (And.intro hc (And.intro hb hn)))
  clear hC hc hb hn hm
  go_enter Try.func6, Try.ntmps6
  go_wp2_with fail
  go_at_call 8
  refine (awake_any w).mono ?_
  rintro e1 w1 ⟨rfl, hbl⟩
  obtain ⟨hC, hc, hb, hn⟩ := HC.out
  have p1 := sit_newin (c := c) ((Sit.refl w).behind hbl) (Kd.C_below hC hbl) hc hb (by omega)
  rw [← hn] at p1
  clear hC hc hb hn hbl
  go_wp2_with fail
  go_at_call 16
  refine p1.mono ?_
  rintro e2 w2 ⟨g, rfl, hs⟩
  have h0 := hs.fresh
  clear p1 hs
  have p2 := sit_getnum h0.swap
  rw [hg] at p2
  clear h0
  go_wp2_with fail
  go_at_call 17
  refine p2.mono ?_
  rintro e3 w3 ⟨rfl, hs⟩
  have p3 := sit_num v hs.swap hv1 (by simp)
  rw [if_neg (by omega), if_neg (by omega), List.nil_append] at p3
  clear p2 hs
  go_wp2_with fail
  go_at_call 24
  refine p3.mono ?_
  rintro e4 w4 ⟨rfl, hs⟩
  have p5 := sit_left hs.swap
  have HS := Aside0.mk hs.below
  rw [HL.out, ← HNN.out] at p5
  clear p3 hs
  go_wp2_with fail
  go_at_call 23
  refine p5.mono ?_
  rintro e5 w5 ⟨rfl, rfl⟩
  go_wp2
  go_ret
  exact ⟨by simp, HS.out⟩

set_option maxRecDepth 100000 in
set_option maxHeartbeats 8000000 in
theorem only0_good (A : Option Addr) (n c : Nat) (b : List Int) (k : Int) (w : World) (hn : n = b.length) (hm : n ≤ 6000) (hC : Kd.C (Kd.int .u8) w A b.length b) (hc : b.length ≤ c) (hb : Bytes b) (hk : k = 0) (v : Int) (left : List Int) (e : Int) (hg : getNum b = ⟨v, left, e⟩) (hv0 : 0 ≤ v) (hv1 : v < 9223372036854775808) (he : e = 0) (u : Nat) (hu0 : 0 < u) (hu1 : u ≤ b.length) (hu2 : digs v.toNat = b.take u) (hu3 : left = b.drop u) :
    Calls Try.prog 6 #[.slice A n c, .int .i64 k] w fun e w' => e = .returned (.bool true) ∧ Below w.heap.size w w' := by
  subst he
  subst hk
  have hlen : (n : Int) ≤ 6000 := by omega
  have HC := Aside0.mk (And.intro hC (And.intro hc (And.intro hb hn)))
  clear hC hc hb hn hm
  go_enter Try.func6, Try.ntmps6
  go_wp2_with fail
  go_at_call 8
  refine (awake_any w).mono ?_
  rintro e1 w1 ⟨rfl, hbl⟩
  obtain ⟨hC, hc, hb, hn⟩ := HC.out
  have p1 := sit_newin (c := c) ((Sit.refl w).behind hbl) (Kd.C_below hC hbl) hc hb (by omega)
  rw [← hn] at p1
  clear hC hc hb hn hbl
  go_wp2_with fail
  go_at_call 16
  refine p1.mono ?_
  rintro e2 w2 ⟨g, rfl, hs⟩
  have h0 := hs.fresh
  clear p1 hs
  have p2 := sit_getnum h0.swap
  rw [hg] at p2
  clear h0
  go_wp2_with fail
  go_at_call 17
  refine p2.mono ?_
  rintro e3 w3 ⟨rfl, hs⟩
  have p3 := sit_num v hs.swap hv1 (by simp)
  rw [if_neg (by omega), if_neg (by omega), List.nil_append] at p3
  clear p2 hs
  go_wp2_with fail
  go_at_call 24
  refine p3.mono ?_
  rintro e4 w4 ⟨rfl, hs⟩
  obtain ⟨L, hL⟩ : ∃ L, L = left.length := ⟨_, rfl⟩
  have p5 := sit_left hs.swap
  rw [← hL] at p5
  obtain ⟨hC, hc, hb, hn⟩ := HC.out
  have hLn : n = L + u := by rw [hL, hu3, List.length_drop]; omega
  have f1 : (0 : Int) < (n : Int) - (L : Int) := by omega
  have f2 : (n : Int) - (L : Int) ≤ (n : Int) := by omega
  have f3 : ((n : Int) - (L : Int)).toNat = u := by omega
  have hcl : (digs v.toNat).length = u := by rw [hu2, List.length_take]; omega
  have p6 := sit_all hs.drew (by rw [hcl]; omega)
  have hold := Kd.C_take hC hu1
  have HO := Aside0.mk (And.intro hold (And.intro hu2 (And.intro hu1 (And.intro hcl (And.intro hc hn)))))
  rw [hcl] at p6
  rw [hn] at hLn f1 f2 f3
  have FF := Aside0.mk (show L < b.length ∧ L ≤ b.length ∧ ((b.length : Int) - (L : Int) ≤ (c : Int)) by omega)
  clear p3 hs hC hb hold hu2 hu3 hcl hL hLn
  go_wp2_with fail
  go_at_call 23
  refine p5.mono ?_
  rintro e5 w5 ⟨rfl, rfl⟩
  go_wp2_with fail
  refine wp_region_any (by kernel_rfl) ?_
  refine wpAny_of_held (S := fun _ => True) _ _ _ _ ?_
  change wpAnyH Try.prog .any _ _ _ 17 #[false, false, false, false, false, false, false, false, false, false, false, false, false, false, false, false, false] _ w5.drew
  refine takeL (i := 0) (v := ?_) rfl (by kernel_rfl) (by kernel_rfl) (by kernel_rfl) (fun _ _ _ h => h) (Or.inl ⟨by rfl, ?hy⟩) trivial ?_
  case hy => intro w hSw; first | (go_simp; done) | (go_simp; rfl) | (go_simp; simp; omega) | (go_simp; exact congrArg (fun t => Result.ok (Next.value (Value.bool t)) _) (decide_eq_true (by omega))) | (obtain ⟨x1, x2, x3⟩ := FF.out; go_simp; first | done | exact x1 | (rw [if_pos ⟨x2, x3⟩])) | (obtain ⟨x1, x2, x3⟩ := FF.out; go_simp; simp; exact x1) | (go_simp; trace_state)
  simp only [Act.put, List.setIfInBounds_toArray, List.set_cons_zero, List.set_cons_succ]
  refine takeL (i := 1) (v := .bool true) rfl (by kernel_rfl) (by kernel_rfl) (by kernel_rfl) (fun _ _ _ h => h) (Or.inl ⟨by rfl, ?hy⟩) trivial ?_
  case hy => intro w hSw; first | (go_simp; done) | (go_simp; rfl) | (go_simp; simp; omega) | (go_simp; exact congrArg (fun t => Result.ok (Next.value (Value.bool t)) _) (decide_eq_true (by omega))) | (obtain ⟨x1, x2, x3⟩ := FF.out; go_simp; first | done | exact x1 | (rw [if_pos ⟨x2, x3⟩])) | (obtain ⟨x1, x2, x3⟩ := FF.out; go_simp; simp; exact x1) | (go_simp; trace_state)
  simp only [Act.put, List.setIfInBounds_toArray, List.set_cons_zero, List.set_cons_succ]
  refine takeL (i := 2) (v := ?_) rfl (by kernel_rfl) (by kernel_rfl) (by kernel_rfl) (fun _ _ _ h => h) (Or.inl ⟨by rfl, ?hy⟩) trivial ?_
  case hy => intro w hSw; first | (go_simp; done) | (go_simp; rfl) | (go_simp; simp; omega) | (go_simp; exact congrArg (fun t => Result.ok (Next.value (Value.bool t)) _) (decide_eq_true (by omega))) | (obtain ⟨x1, x2, x3⟩ := FF.out; go_simp; first | done | exact x1 | (rw [if_pos ⟨x2, x3⟩])) | (obtain ⟨x1, x2, x3⟩ := FF.out; go_simp; simp; exact x1) | (go_simp; trace_state)
  simp only [Act.put, List.setIfInBounds_toArray, List.set_cons_zero, List.set_cons_succ]
  refine takeL (i := 3) (v := ?_) rfl (by kernel_rfl) (by kernel_rfl) (by kernel_rfl) (fun _ _ _ h => h) (Or.inl ⟨by rfl, ?hy⟩) trivial ?_
  case hy => intro w hSw; first | (go_simp; done) | (go_simp; rfl) | (go_simp; simp; omega) | (go_simp; exact congrArg (fun t => Result.ok (Next.value (Value.bool t)) _) (decide_eq_true (by omega))) | (obtain ⟨x1, x2, x3⟩ := FF.out; go_simp; first | done | exact x1 | (rw [if_pos ⟨x2, x3⟩])) | (obtain ⟨x1, x2, x3⟩ := FF.out; go_simp; simp; exact x1) | (go_simp; trace_state)
  simp only [Act.put, List.setIfInBounds_toArray, List.set_cons_zero, List.set_cons_succ]
  refine takeL (i := 4) (v := ?_) rfl (by kernel_rfl) (by kernel_rfl) (by kernel_rfl) (fun _ _ _ h => h) (Or.inl ⟨by rfl, ?hy⟩) trivial ?_
  case hy => intro w hSw; first | (go_simp; done) | (go_simp; rfl) | (go_simp; simp; omega) | (go_simp; exact congrArg (fun t => Result.ok (Next.value (Value.bool t)) _) (decide_eq_true (by omega))) | (obtain ⟨x1, x2, x3⟩ := FF.out; go_simp; first | done | exact x1 | (rw [if_pos ⟨x2, x3⟩])) | (obtain ⟨x1, x2, x3⟩ := FF.out; go_simp; simp; exact x1) | (go_simp; trace_state)
  simp only [Act.put, List.setIfInBounds_toArray, List.set_cons_zero, List.set_cons_succ]
  refine takeL (i := 5) (v := ?_) rfl (by kernel_rfl) (by kernel_rfl) (by kernel_rfl) (fun _ _ _ h => h) (Or.inl ⟨by rfl, ?hy⟩) trivial ?_
  case hy => intro w hSw; first | (go_simp; done) | (go_simp; rfl) | (go_simp; simp; omega) | (go_simp; exact congrArg (fun t => Result.ok (Next.value (Value.bool t)) _) (decide_eq_true (by omega))) | (obtain ⟨x1, x2, x3⟩ := FF.out; go_simp; first | done | exact x1 | (rw [if_pos ⟨x2, x3⟩])) | (obtain ⟨x1, x2, x3⟩ := FF.out; go_simp; simp; exact x1) | (go_simp; trace_state)
  simp only [Act.put, List.setIfInBounds_toArray, List.set_cons_zero, List.set_cons_succ]
  refine takeL (i := 6) (v := .bool true) rfl (by kernel_rfl) (by kernel_rfl) (by kernel_rfl) (fun _ _ _ h => h) (Or.inl ⟨by rfl, ?hy⟩) trivial ?_
  case hy => intro w hSw; first | (go_simp; done) | (go_simp; rfl) | (go_simp; simp; omega) | (go_simp; exact congrArg (fun t => Result.ok (Next.value (Value.bool t)) _) (decide_eq_true (by omega))) | (obtain ⟨x1, x2, x3⟩ := FF.out; go_simp; first | done | exact x1 | (rw [if_pos ⟨x2, x3⟩])) | (obtain ⟨x1, x2, x3⟩ := FF.out; go_simp; simp; exact x1) | (go_simp; trace_state)
  simp only [Act.put, List.setIfInBounds_toArray, List.set_cons_zero, List.set_cons_succ]
  refine takeL (i := 7) (v := ?_) rfl (by kernel_rfl) (by kernel_rfl) (by kernel_rfl) (fun _ _ _ h => h) (Or.inl ⟨by rfl, ?hy⟩) trivial ?_
  case hy => intro w hSw; first | (go_simp; done) | (go_simp; rfl) | (go_simp; simp; omega) | (go_simp; exact congrArg (fun t => Result.ok (Next.value (Value.bool t)) _) (decide_eq_true (by omega))) | (obtain ⟨x1, x2, x3⟩ := FF.out; go_simp; first | done | exact x1 | (rw [if_pos ⟨x2, x3⟩])) | (obtain ⟨x1, x2, x3⟩ := FF.out; go_simp; simp; exact x1) | (go_simp; trace_state)
  simp only [Act.put, List.setIfInBounds_toArray, List.set_cons_zero, List.set_cons_succ]
  refine takeL (i := 8) (v := ?_) rfl (by kernel_rfl) (by kernel_rfl) (by kernel_rfl) (fun _ _ _ h => h) (Or.inl ⟨by rfl, ?hy⟩) trivial ?_
  case hy => intro w hSw; first | (go_simp; done) | (go_simp; rfl) | (go_simp; simp; omega) | (go_simp; exact congrArg (fun t => Result.ok (Next.value (Value.bool t)) _) (decide_eq_true (by omega))) | (obtain ⟨x1, x2, x3⟩ := FF.out; go_simp; first | done | exact x1 | (rw [if_pos ⟨x2, x3⟩])) | (obtain ⟨x1, x2, x3⟩ := FF.out; go_simp; simp; exact x1) | (go_simp; trace_state)
  simp only [Act.put, List.setIfInBounds_toArray, List.set_cons_zero, List.set_cons_succ]
  refine takeL (i := 9) (v := ?_) rfl (by kernel_rfl) (by kernel_rfl) (by kernel_rfl) (fun _ _ _ h => h) (Or.inl ⟨by rfl, ?hy⟩) trivial ?_
  case hy => intro w hSw; first | (go_simp; done) | (go_simp; rfl) | (go_simp; simp; omega) | (go_simp; exact congrArg (fun t => Result.ok (Next.value (Value.bool t)) _) (decide_eq_true (by omega))) | (obtain ⟨x1, x2, x3⟩ := FF.out; go_simp; first | done | exact x1 | (rw [if_pos ⟨x2, x3⟩])) | (obtain ⟨x1, x2, x3⟩ := FF.out; go_simp; simp; exact x1) | (go_simp; trace_state)
  simp only [Act.put, List.setIfInBounds_toArray, List.set_cons_zero, List.set_cons_succ]
  refine takeL (i := 11) (v := ?_) rfl (by kernel_rfl) (by kernel_rfl) (by kernel_rfl) (fun _ _ _ h => h) (Or.inl ⟨by rfl, ?hy⟩) trivial ?_
  case hy => intro w hSw; first | (go_simp; done) | (go_simp; rfl) | (go_simp; simp; omega) | (go_simp; exact congrArg (fun t => Result.ok (Next.value (Value.bool t)) _) (decide_eq_true (by omega))) | (obtain ⟨x1, x2, x3⟩ := FF.out; go_simp; first | done | exact x1 | (rw [if_pos ⟨x2, x3⟩])) | (obtain ⟨x1, x2, x3⟩ := FF.out; go_simp; simp; exact x1) | (go_simp; trace_state)
  simp only [Act.put, List.setIfInBounds_toArray, List.set_cons_zero, List.set_cons_succ]
  refine takeL (i := 12) (v := ?_) rfl (by kernel_rfl) (by kernel_rfl) (by kernel_rfl) (fun _ _ _ h => h) (Or.inl ⟨by rfl, ?hy⟩) trivial ?_
  case hy => intro w hSw; first | (go_simp; done) | (go_simp; rfl) | (go_simp; simp; omega) | (go_simp; exact congrArg (fun t => Result.ok (Next.value (Value.bool t)) _) (decide_eq_true (by omega))) | (obtain ⟨x1, x2, x3⟩ := FF.out; go_simp; first | done | exact x1 | (rw [if_pos ⟨x2, x3⟩])) | (obtain ⟨x1, x2, x3⟩ := FF.out; go_simp; simp; exact x1) | (go_simp; trace_state)
  simp only [Act.put, List.setIfInBounds_toArray, List.set_cons_zero, List.set_cons_succ]
  refine takeL (i := 13) (v := .slice A u c) rfl (by kernel_rfl) (by kernel_rfl) (by kernel_rfl) (fun _ _ _ h => h) (Or.inl ⟨by rfl, ?hy⟩) trivial ?_
  case hy => intro w hSw; first | (go_simp; done) | (go_simp; rfl) | (go_simp; simp; omega) | (go_simp; exact congrArg (fun t => Result.ok (Next.value (Value.bool t)) _) (decide_eq_true (by omega))) | (obtain ⟨x1, x2, x3⟩ := FF.out; go_simp; first | done | exact x1 | (rw [if_pos ⟨x2, x3⟩])) | (obtain ⟨x1, x2, x3⟩ := FF.out; go_simp; simp; exact x1) | (go_simp; trace_state)
  simp only [Act.put, List.setIfInBounds_toArray, List.set_cons_zero, List.set_cons_succ]
  refine wpAnyH_ready (rs := [10]) (by kernel_rfl) (by simp) ?_
  refine consL rfl (fun K hK => ?_) AllReadyH.nil
  go_simp
  go_at_call 15
  refine p6.mono ?_
  rintro e6 w6 ⟨A6, c6, rfl, hc6, hs6⟩
  have p7 := only_same hs6 HO.out hlen
  have HS6 := Aside0.mk hs6.below
  clear hs6 p6 hc6
  go_simp
  refine hK.out _ _ trivial (fun _ => ?_)
  clear hK K
  simp only [Act.put, List.setIfInBounds_toArray, List.set_cons_zero, List.set_cons_succ]
  refine wpAnyH_ready (rs := [14]) (by kernel_rfl) (by simp) ?_
  refine consL rfl (fun K hK => ?_) AllReadyH.nil
  go_simp
  go_at_call 14
  refine p7.mono ?_
  rintro e7 w7 ⟨rfl, hd⟩
  have HD := Aside0.mk hd
  clear hd p7
  go_simp
  refine hK.out _ _ trivial (fun _ => ?_)
  clear hK K
  simp only [Act.put, List.setIfInBounds_toArray, List.set_cons_zero, List.set_cons_succ]
  refine takeL (i := 15) (v := ?_) rfl (by kernel_rfl) (by kernel_rfl) (by kernel_rfl) (fun _ _ _ h => h) (Or.inl ⟨by rfl, ?hy⟩) trivial ?_
  case hy => intro w hSw; first | (go_simp; done) | (go_simp; rfl) | (go_simp; simp; omega) | (go_simp; exact congrArg (fun t => Result.ok (Next.value (Value.bool t)) _) (decide_eq_true (by omega))) | (obtain ⟨x1, x2, x3⟩ := FF.out; go_simp; first | done | exact x1 | (rw [if_pos ⟨x2, x3⟩])) | (obtain ⟨x1, x2, x3⟩ := FF.out; go_simp; simp; exact x1) | (go_simp; trace_state)
  simp only [Act.put, List.setIfInBounds_toArray, List.set_cons_zero, List.set_cons_succ]
  refine takeL (i := 16) (v := ?_) rfl (by kernel_rfl) (by kernel_rfl) (by kernel_rfl) (fun _ _ _ h => h) (Or.inl ⟨by rfl, ?hy⟩) trivial ?_
  case hy => intro w hSw; first | (go_simp; done) | (go_simp; rfl) | (go_simp; simp; omega) | (go_simp; exact congrArg (fun t => Result.ok (Next.value (Value.bool t)) _) (decide_eq_true (by omega))) | (obtain ⟨x1, x2, x3⟩ := FF.out; go_simp; first | done | exact x1 | (rw [if_pos ⟨x2, x3⟩])) | (obtain ⟨x1, x2, x3⟩ := FF.out; go_simp; simp; exact x1) | (go_simp; trace_state)
  simp only [Act.put, List.setIfInBounds_toArray, List.set_cons_zero, List.set_cons_succ]
  refine wpAnyH_done (by kernel_rfl) ?_ _
  go_wp2
  go_ret
  exact ⟨rfl, drawn_below HS6.out HD.out⟩

set_option maxRecDepth 100000 in
set_option maxHeartbeats 8000000 in
theorem only1_bad (A : Option Addr) (n c : Nat) (b : List Int) (k : Int) (w : World) (hn : n = b.length) (hm : n ≤ 6000) (hC : Kd.C (Kd.int .u8) w A b.length b) (hc : b.length ≤ c) (hb : Bytes b) (hk : k = 1) (v : Int) (left : List Int) (e : Int) (hg : getInt b = ⟨v, left, e⟩) (hv0 : -9223372036854775808 ≤ v) (hv1 : v < 9223372036854775808) (he : e ≠ 0) (hL : left = b) :
    Calls Try.prog 6 #[.slice A n c, .int .i64 k] w fun e w' => e = .returned (.bool true) ∧ Below w.heap.size w w' := by
  have heb : (e == 0) = false := by simp [he]
  have heb2 : (e != 0) = true := by simp [he]
  have HNN := Aside0.mk hn
  have HL := Aside0.mk (show left.length = b.length by rw [hL])
  clear he hL
  subst hk
  have hlen : (n : Int) ≤ 6000 := by omega
  have HC := Aside0.mk (And.intro hC (And.intro hc (And.intro hb hn)))
  clear hC hc hb hn hm
  go_enter Try.func6, Try.ntmps6
  go_wp2_with fail
  go_at_call 8
  refine (awake_any w).mono ?_
  rintro e1 w1 ⟨rfl, hbl⟩
  obtain ⟨hC, hc, hb, hn⟩ := HC.out
  have p1 := sit_newin (c := c) ((Sit.refl w).behind hbl) (Kd.C_below hC hbl) hc hb (by omega)
  rw [← hn] at p1
  clear hC hc hb hn hbl
  go_wp2_with fail
  go_at_call 16
  refine p1.mono ?_
  rintro e2 w2 ⟨g, rfl, hs⟩
  have h0 := hs.fresh
  clear p1 hs
  have p2 := sit_getint h0.swap
  rw [hg] at p2
  clear h0
  go_wp2_with fail
  go_at_call 19
  refine p2.mono ?_
  rintro e3 w3 ⟨rfl, hs⟩
  have p3 := sit_int v hs.swap hv0 hv1 (by simp)
  rw [List.nil_append] at p3
  clear p2 hs
  go_wp2_with fail
  go_at_call 25
  refine p3.mono ?_
  rintro e4 w4 ⟨rfl, hs⟩
  have p5 := sit_left hs.swap
  have HS := Aside0.mk hs.below
  rw [HL.out, ← HNN.out] at p5
  clear p3 hs
  go_wp2_with fail
  go_at_call 23
  refine p5.mono ?_
  rintro e5 w5 ⟨rfl, rfl⟩
  go_wp2
  go_ret
  exact ⟨by simp, HS.out⟩

set_option maxRecDepth 100000 in
set_option maxHeartbeats 8000000 in
theorem only1_good (A : Option Addr) (n c : Nat) (b : List Int) (k : Int) (w : World) (hn : n = b.length) (hm : n ≤ 6000) (hC : Kd.C (Kd.int .u8) w A b.length b) (hc : b.length ≤ c) (hb : Bytes b) (hk : k = 1) (v : Int) (left : List Int) (e : Int) (hg : getInt b = ⟨v, left, e⟩) (hv0 : -9223372036854775808 ≤ v) (hv1 : v < 9223372036854775808) (he : e = 0) (u : Nat) (hu0 : 0 < u) (hu1 : u ≤ b.length) (hu2 : digs (zig v) = b.take u) (hu3 : left = b.drop u) :
    Calls Try.prog 6 #[.slice A n c, .int .i64 k] w fun e w' => e = .returned (.bool true) ∧ Below w.heap.size w w' := by
  subst he
  subst hk
  have hlen : (n : Int) ≤ 6000 := by omega
  have HC := Aside0.mk (And.intro hC (And.intro hc (And.intro hb hn)))
  clear hC hc hb hn hm
  go_enter Try.func6, Try.ntmps6
  go_wp2_with fail
  go_at_call 8
  refine (awake_any w).mono ?_
  rintro e1 w1 ⟨rfl, hbl⟩
  obtain ⟨hC, hc, hb, hn⟩ := HC.out
  have p1 := sit_newin (c := c) ((Sit.refl w).behind hbl) (Kd.C_below hC hbl) hc hb (by omega)
  rw [← hn] at p1
  clear hC hc hb hn hbl
  go_wp2_with fail
  go_at_call 16
  refine p1.mono ?_
  rintro e2 w2 ⟨g, rfl, hs⟩
  have h0 := hs.fresh
  clear p1 hs
  have p2 := sit_getint h0.swap
  rw [hg] at p2
  clear h0
  go_wp2_with fail
  go_at_call 19
  refine p2.mono ?_
  rintro e3 w3 ⟨rfl, hs⟩
  have p3 := sit_int v hs.swap hv0 hv1 (by simp)
  rw [List.nil_append] at p3
  clear p2 hs
  go_wp2_with fail
  go_at_call 25
  refine p3.mono ?_
  rintro e4 w4 ⟨rfl, hs⟩
  obtain ⟨L, hL⟩ : ∃ L, L = left.length := ⟨_, rfl⟩
  have p5 := sit_left hs.swap
  rw [← hL] at p5
  obtain ⟨hC, hc, hb, hn⟩ := HC.out
  have hLn : n = L + u := by rw [hL, hu3, List.length_drop]; omega
  have f1 : (0 : Int) < (n : Int) - (L : Int) := by omega
  have f2 : (n : Int) - (L : Int) ≤ (n : Int) := by omega
  have f3 : ((n : Int) - (L : Int)).toNat = u := by omega
  have hcl : (digs (zig v)).length = u := by rw [hu2, List.length_take]; omega
  have p6 := sit_all hs.drew (by rw [hcl]; omega)
  have hold := Kd.C_take hC hu1
  have HO := Aside0.mk (And.intro hold (And.intro hu2 (And.intro hu1 (And.intro hcl (And.intro hc hn)))))
  rw [hcl] at p6
  rw [hn] at hLn f1 f2 f3
  have FF := Aside0.mk (show L < b.length ∧ L ≤ b.length ∧ ((b.length : Int) - (L : Int) ≤ (c : Int)) by omega)
  clear p3 hs hC hb hold hu2 hu3 hcl hL hLn
  go_wp2_with fail
  go_at_call 23
  refine p5.mono ?_
  rintro e5 w5 ⟨rfl, rfl⟩
  go_wp2_with fail
  refine wp_region_any (by kernel_rfl) ?_
  refine wpAny_of_held (S := fun _ => True) _ _ _ _ ?_
  change wpAnyH Try.prog .any _ _ _ 17 #[false, false, false, false, false, false, false, false, false, false, false, false, false, false, false, false, false] _ w5.drew
  refine takeL (i := 0) (v := ?_) rfl (by kernel_rfl) (by kernel_rfl) (by kernel_rfl) (fun _ _ _ h => h) (Or.inl ⟨by rfl, ?hy⟩) trivial ?_
  case hy => intro w hSw; first | (go_simp; done) | (go_simp; rfl) | (go_simp; simp; omega) | (go_simp; exact congrArg (fun t => Result.ok (Next.value (Value.bool t)) _) (decide_eq_true (by omega))) | (obtain ⟨x1, x2, x3⟩ := FF.out; go_simp; first | done | exact x1 | (rw [if_pos ⟨x2, x3⟩])) | (obtain ⟨x1, x2, x3⟩ := FF.out; go_simp; simp; exact x1) | (go_simp; trace_state)
  simp only [Act.put, List.setIfInBounds_toArray, List.set_cons_zero, List.set_cons_succ]
  refine takeL (i := 1) (v := .bool true) rfl (by kernel_rfl) (by kernel_rfl) (by kernel_rfl) (fun _ _ _ h => h) (Or.inl ⟨by rfl, ?hy⟩) trivial ?_
  case hy => intro w hSw; first | (go_simp; done) | (go_simp; rfl) | (go_simp; simp; omega) | (go_simp; exact congrArg (fun t => Result.ok (Next.value (Value.bool t)) _) (decide_eq_true (by omega))) | (obtain ⟨x1, x2, x3⟩ := FF.out; go_simp; first | done | exact x1 | (rw [if_pos ⟨x2, x3⟩])) | (obtain ⟨x1, x2, x3⟩ := FF.out; go_simp; simp; exact x1) | (go_simp; trace_state)
  simp only [Act.put, List.setIfInBounds_toArray, List.set_cons_zero, List.set_cons_succ]
  refine takeL (i := 2) (v := ?_) rfl (by kernel_rfl) (by kernel_rfl) (by kernel_rfl) (fun _ _ _ h => h) (Or.inl ⟨by rfl, ?hy⟩) trivial ?_
  case hy => intro w hSw; first | (go_simp; done) | (go_simp; rfl) | (go_simp; simp; omega) | (go_simp; exact congrArg (fun t => Result.ok (Next.value (Value.bool t)) _) (decide_eq_true (by omega))) | (obtain ⟨x1, x2, x3⟩ := FF.out; go_simp; first | done | exact x1 | (rw [if_pos ⟨x2, x3⟩])) | (obtain ⟨x1, x2, x3⟩ := FF.out; go_simp; simp; exact x1) | (go_simp; trace_state)
  simp only [Act.put, List.setIfInBounds_toArray, List.set_cons_zero, List.set_cons_succ]
  refine takeL (i := 3) (v := ?_) rfl (by kernel_rfl) (by kernel_rfl) (by kernel_rfl) (fun _ _ _ h => h) (Or.inl ⟨by rfl, ?hy⟩) trivial ?_
  case hy => intro w hSw; first | (go_simp; done) | (go_simp; rfl) | (go_simp; simp; omega) | (go_simp; exact congrArg (fun t => Result.ok (Next.value (Value.bool t)) _) (decide_eq_true (by omega))) | (obtain ⟨x1, x2, x3⟩ := FF.out; go_simp; first | done | exact x1 | (rw [if_pos ⟨x2, x3⟩])) | (obtain ⟨x1, x2, x3⟩ := FF.out; go_simp; simp; exact x1) | (go_simp; trace_state)
  simp only [Act.put, List.setIfInBounds_toArray, List.set_cons_zero, List.set_cons_succ]
  refine takeL (i := 4) (v := ?_) rfl (by kernel_rfl) (by kernel_rfl) (by kernel_rfl) (fun _ _ _ h => h) (Or.inl ⟨by rfl, ?hy⟩) trivial ?_
  case hy => intro w hSw; first | (go_simp; done) | (go_simp; rfl) | (go_simp; simp; omega) | (go_simp; exact congrArg (fun t => Result.ok (Next.value (Value.bool t)) _) (decide_eq_true (by omega))) | (obtain ⟨x1, x2, x3⟩ := FF.out; go_simp; first | done | exact x1 | (rw [if_pos ⟨x2, x3⟩])) | (obtain ⟨x1, x2, x3⟩ := FF.out; go_simp; simp; exact x1) | (go_simp; trace_state)
  simp only [Act.put, List.setIfInBounds_toArray, List.set_cons_zero, List.set_cons_succ]
  refine takeL (i := 5) (v := ?_) rfl (by kernel_rfl) (by kernel_rfl) (by kernel_rfl) (fun _ _ _ h => h) (Or.inl ⟨by rfl, ?hy⟩) trivial ?_
  case hy => intro w hSw; first | (go_simp; done) | (go_simp; rfl) | (go_simp; simp; omega) | (go_simp; exact congrArg (fun t => Result.ok (Next.value (Value.bool t)) _) (decide_eq_true (by omega))) | (obtain ⟨x1, x2, x3⟩ := FF.out; go_simp; first | done | exact x1 | (rw [if_pos ⟨x2, x3⟩])) | (obtain ⟨x1, x2, x3⟩ := FF.out; go_simp; simp; exact x1) | (go_simp; trace_state)
  simp only [Act.put, List.setIfInBounds_toArray, List.set_cons_zero, List.set_cons_succ]
  refine takeL (i := 6) (v := .bool true) rfl (by kernel_rfl) (by kernel_rfl) (by kernel_rfl) (fun _ _ _ h => h) (Or.inl ⟨by rfl, ?hy⟩) trivial ?_
  case hy => intro w hSw; first | (go_simp; done) | (go_simp; rfl) | (go_simp; simp; omega) | (go_simp; exact congrArg (fun t => Result.ok (Next.value (Value.bool t)) _) (decide_eq_true (by omega))) | (obtain ⟨x1, x2, x3⟩ := FF.out; go_simp; first | done | exact x1 | (rw [if_pos ⟨x2, x3⟩])) | (obtain ⟨x1, x2, x3⟩ := FF.out; go_simp; simp; exact x1) | (go_simp; trace_state)
  simp only [Act.put, List.setIfInBounds_toArray, List.set_cons_zero, List.set_cons_succ]
  refine takeL (i := 7) (v := ?_) rfl (by kernel_rfl) (by kernel_rfl) (by kernel_rfl) (fun _ _ _ h => h) (Or.inl ⟨by rfl, ?hy⟩) trivial ?_
  case hy => intro w hSw; first | (go_simp; done) | (go_simp; rfl) | (go_simp; simp; omega) | (go_simp; exact congrArg (fun t => Result.ok (Next.value (Value.bool t)) _) (decide_eq_true (by omega))) | (obtain ⟨x1, x2, x3⟩ := FF.out; go_simp; first | done | exact x1 | (rw [if_pos ⟨x2, x3⟩])) | (obtain ⟨x1, x2, x3⟩ := FF.out; go_simp; simp; exact x1) | (go_simp; trace_state)
  simp only [Act.put, List.setIfInBounds_toArray, List.set_cons_zero, List.set_cons_succ]
  refine takeL (i := 8) (v := ?_) rfl (by kernel_rfl) (by kernel_rfl) (by kernel_rfl) (fun _ _ _ h => h) (Or.inl ⟨by rfl, ?hy⟩) trivial ?_
  case hy => intro w hSw; first | (go_simp; done) | (go_simp; rfl) | (go_simp; simp; omega) | (go_simp; exact congrArg (fun t => Result.ok (Next.value (Value.bool t)) _) (decide_eq_true (by omega))) | (obtain ⟨x1, x2, x3⟩ := FF.out; go_simp; first | done | exact x1 | (rw [if_pos ⟨x2, x3⟩])) | (obtain ⟨x1, x2, x3⟩ := FF.out; go_simp; simp; exact x1) | (go_simp; trace_state)
  simp only [Act.put, List.setIfInBounds_toArray, List.set_cons_zero, List.set_cons_succ]
  refine takeL (i := 9) (v := ?_) rfl (by kernel_rfl) (by kernel_rfl) (by kernel_rfl) (fun _ _ _ h => h) (Or.inl ⟨by rfl, ?hy⟩) trivial ?_
  case hy => intro w hSw; first | (go_simp; done) | (go_simp; rfl) | (go_simp; simp; omega) | (go_simp; exact congrArg (fun t => Result.ok (Next.value (Value.bool t)) _) (decide_eq_true (by omega))) | (obtain ⟨x1, x2, x3⟩ := FF.out; go_simp; first | done | exact x1 | (rw [if_pos ⟨x2, x3⟩])) | (obtain ⟨x1, x2, x3⟩ := FF.out; go_simp; simp; exact x1) | (go_simp; trace_state)
  simp only [Act.put, List.setIfInBounds_toArray, List.set_cons_zero, List.set_cons_succ]
  refine takeL (i := 11) (v := ?_) rfl (by kernel_rfl) (by kernel_rfl) (by kernel_rfl) (fun _ _ _ h => h) (Or.inl ⟨by rfl, ?hy⟩) trivial ?_
  case hy => intro w hSw; first | (go_simp; done) | (go_simp; rfl) | (go_simp; simp; omega) | (go_simp; exact congrArg (fun t => Result.ok (Next.value (Value.bool t)) _) (decide_eq_true (by omega))) | (obtain ⟨x1, x2, x3⟩ := FF.out; go_simp; first | done | exact x1 | (rw [if_pos ⟨x2, x3⟩])) | (obtain ⟨x1, x2, x3⟩ := FF.out; go_simp; simp; exact x1) | (go_simp; trace_state)
  simp only [Act.put, List.setIfInBounds_toArray, List.set_cons_zero, List.set_cons_succ]
  refine takeL (i := 12) (v := ?_) rfl (by kernel_rfl) (by kernel_rfl) (by kernel_rfl) (fun _ _ _ h => h) (Or.inl ⟨by rfl, ?hy⟩) trivial ?_
  case hy => intro w hSw; first | (go_simp; done) | (go_simp; rfl) | (go_simp; simp; omega) | (go_simp; exact congrArg (fun t => Result.ok (Next.value (Value.bool t)) _) (decide_eq_true (by omega))) | (obtain ⟨x1, x2, x3⟩ := FF.out; go_simp; first | done | exact x1 | (rw [if_pos ⟨x2, x3⟩])) | (obtain ⟨x1, x2, x3⟩ := FF.out; go_simp; simp; exact x1) | (go_simp; trace_state)
  simp only [Act.put, List.setIfInBounds_toArray, List.set_cons_zero, List.set_cons_succ]
  refine takeL (i := 13) (v := .slice A u c) rfl (by kernel_rfl) (by kernel_rfl) (by kernel_rfl) (fun _ _ _ h => h) (Or.inl ⟨by rfl, ?hy⟩) trivial ?_
  case hy => intro w hSw; first | (go_simp; done) | (go_simp; rfl) | (go_simp; simp; omega) | (go_simp; exact congrArg (fun t => Result.ok (Next.value (Value.bool t)) _) (decide_eq_true (by omega))) | (obtain ⟨x1, x2, x3⟩ := FF.out; go_simp; first | done | exact x1 | (rw [if_pos ⟨x2, x3⟩])) | (obtain ⟨x1, x2, x3⟩ := FF.out; go_simp; simp; exact x1) | (go_simp; trace_state)
  simp only [Act.put, List.setIfInBounds_toArray, List.set_cons_zero, List.set_cons_succ]
  refine wpAnyH_ready (rs := [10]) (by kernel_rfl) (by simp) ?_
  refine consL rfl (fun K hK => ?_) AllReadyH.nil
  go_simp
  go_at_call 15
  refine p6.mono ?_
  rintro e6 w6 ⟨A6, c6, rfl, hc6, hs6⟩
  have p7 := only_same hs6 HO.out hlen
  have HS6 := Aside0.mk hs6.below
  clear hs6 p6 hc6
  go_simp
  refine hK.out _ _ trivial (fun _ => ?_)
  clear hK K
  simp only [Act.put, List.setIfInBounds_toArray, List.set_cons_zero, List.set_cons_succ]
  refine wpAnyH_ready (rs := [14]) (by kernel_rfl) (by simp) ?_
  refine consL rfl (fun K hK => ?_) AllReadyH.nil
  go_simp
  go_at_call 14
  refine p7.mono ?_
  rintro e7 w7 ⟨rfl, hd⟩
  have HD := Aside0.mk hd
  clear hd p7
  go_simp
  refine hK.out _ _ trivial (fun _ => ?_)
  clear hK K
  simp only [Act.put, List.setIfInBounds_toArray, List.set_cons_zero, List.set_cons_succ]
  refine takeL (i := 15) (v := ?_) rfl (by kernel_rfl) (by kernel_rfl) (by kernel_rfl) (fun _ _ _ h => h) (Or.inl ⟨by rfl, ?hy⟩) trivial ?_
  case hy => intro w hSw; first | (go_simp; done) | (go_simp; rfl) | (go_simp; simp; omega) | (go_simp; exact congrArg (fun t => Result.ok (Next.value (Value.bool t)) _) (decide_eq_true (by omega))) | (obtain ⟨x1, x2, x3⟩ := FF.out; go_simp; first | done | exact x1 | (rw [if_pos ⟨x2, x3⟩])) | (obtain ⟨x1, x2, x3⟩ := FF.out; go_simp; simp; exact x1) | (go_simp; trace_state)
  simp only [Act.put, List.setIfInBounds_toArray, List.set_cons_zero, List.set_cons_succ]
  refine takeL (i := 16) (v := ?_) rfl (by kernel_rfl) (by kernel_rfl) (by kernel_rfl) (fun _ _ _ h => h) (Or.inl ⟨by rfl, ?hy⟩) trivial ?_
  case hy => intro w hSw; first | (go_simp; done) | (go_simp; rfl) | (go_simp; simp; omega) | (go_simp; exact congrArg (fun t => Result.ok (Next.value (Value.bool t)) _) (decide_eq_true (by omega))) | (obtain ⟨x1, x2, x3⟩ := FF.out; go_simp; first | done | exact x1 | (rw [if_pos ⟨x2, x3⟩])) | (obtain ⟨x1, x2, x3⟩ := FF.out; go_simp; simp; exact x1) | (go_simp; trace_state)
  simp only [Act.put, List.setIfInBounds_toArray, List.set_cons_zero, List.set_cons_succ]
  refine wpAnyH_done (by kernel_rfl) ?_ _
  go_wp2
  go_ret
  exact ⟨rfl, drawn_below HS6.out HD.out⟩

set_option maxRecDepth 100000 in
set_option maxHeartbeats 8000000 in
theorem only2_bad (A : Option Addr) (n c : Nat) (b : List Int) (k : Int) (w : World) (hn : n = b.length) (hm : n ≤ 6000) (hC : Kd.C (Kd.int .u8) w A b.length b) (hc : b.length ≤ c) (hb : Bytes b) (hk : ¬ k = 0 ∧ ¬ k = 1) (v : List Int) (left : List Int) (e : Int) (hg : getBytes b = ⟨v, left, e⟩) (hv1 : v.length ≤ 4096) (he : e ≠ 0) (hL : left = b) :
    Calls Try.prog 6 #[.slice A n c, .int .i64 k] w fun e w' => e = .returned (.bool true) ∧ Below w.heap.size w w' := by
  have heb : (e == 0) = false := by simp [he]
  have heb2 : (e != 0) = true := by simp [he]
  have HNN := Aside0.mk hn
  have HL := Aside0.mk (show left.length = b.length by rw [hL])
  clear he hL
  have hk0 : (k == 0) = false := by simp [hk.1]
  have hk1 : (k == 1) = false := by simp [hk.2]
  clear hk
  have hlen : (n : Int) ≤ 6000 := by omega
  have HC := Aside0.mk (And.intro hC (And.intro hc (And.intro hb hn)))
  clear hC hc hb hn hm
  go_enter Try.func6, Try.ntmps6
  go_wp2_with fail
  go_at_call 8
  refine (awake_any w).mono ?_
  rintro e1 w1 ⟨rfl, hbl⟩
  obtain ⟨hC, hc, hb, hn⟩ := HC.out
  have p1 := sit_newin (c := c) ((Sit.refl w).behind hbl) (Kd.C_below hC hbl) hc hb (by omega)
  rw [← hn] at p1
  clear hC hc hb hn hbl
  go_wp2_with fail
  go_at_call 16
  refine p1.mono ?_
  rintro e2 w2 ⟨g, rfl, hs⟩
  have h0 := hs.fresh
  clear p1 hs
  have p2 := sit_getbytes h0.swap
  rw [hg] at p2
  clear h0
  go_wp2_with fail
  go_at_call 21
  refine p2.mono ?_
  rintro e3 w3 ⟨A2, c2, rfl, hc2, hs⟩
  have p3 := sit_bytes_row hs (by simp)
  rw [if_neg (by omega), if_neg (by omega), List.nil_append] at p3
  clear p2 hs
  go_wp2_with fail
  go_at_call 26
  refine p3.mono ?_
  rintro e4 w4 ⟨rfl, hs⟩
  have p5 := sit_left hs.swap
  have HS := Aside0.mk hs.below
  rw [HL.out, ← HNN.out] at p5
  clear p3 hs
  go_wp2_with fail
  go_at_call 23
  refine p5.mono ?_
  rintro e5 w5 ⟨rfl, rfl⟩
  go_wp2
  go_ret
  exact ⟨by simp, HS.out⟩

set_option maxRecDepth 100000 in
set_option maxHeartbeats 8000000 in
theorem only2_good (A : Option Addr) (n c : Nat) (b : List Int) (k : Int) (w : World) (hn : n = b.length) (hm : n ≤ 6000) (hC : Kd.C (Kd.int .u8) w A b.length b) (hc : b.length ≤ c) (hb : Bytes b) (hk : ¬ k = 0 ∧ ¬ k = 1) (v : List Int) (left : List Int) (e : Int) (hg : getBytes b = ⟨v, left, e⟩) (hv1 : v.length ≤ 4096) (he : e = 0) (u : Nat) (hu0 : 0 < u) (hu1 : u ≤ b.length) (hu2 : digs v.length ++ v = b.take u) (hu3 : left = b.drop u) :
    Calls Try.prog 6 #[.slice A n c, .int .i64 k] w fun e w' => e = .returned (.bool true) ∧ Below w.heap.size w w' := by
  subst he
  have hk0 : (k == 0) = false := by simp [hk.1]
  have hk1 : (k == 1) = false := by simp [hk.2]
  clear hk
  have hlen : (n : Int) ≤ 6000 := by omega
  have HC := Aside0.mk (And.intro hC (And.intro hc (And.intro hb hn)))
  clear hC hc hb hn hm
  go_enter Try.func6, Try.ntmps6
  go_wp2_with fail
  go_at_call 8
  refine (awake_any w).mono ?_
  rintro e1 w1 ⟨rfl, hbl⟩
  obtain ⟨hC, hc, hb, hn⟩ := HC.out
  have p1 := sit_newin (c := c) ((Sit.refl w).behind hbl) (Kd.C_below hC hbl) hc hb (by omega)
  rw [← hn] at p1
  clear hC hc hb hn hbl
  go_wp2_with fail
  go_at_call 16
  refine p1.mono ?_
  rintro e2 w2 ⟨g, rfl, hs⟩
  have h0 := hs.fresh
  clear p1 hs
  have p2 := sit_getbytes h0.swap
  rw [hg] at p2
  clear h0
  go_wp2_with fail
  go_at_call 21
  refine p2.mono ?_
  rintro e3 w3 ⟨A2, c2, rfl, hc2, hs⟩
  have p3 := sit_bytes_row hs (by simp)
  rw [if_neg (by omega), if_neg (by omega), List.nil_append] at p3
  clear p2 hs
  go_wp2_with fail
  go_at_call 26
  refine p3.mono ?_
  rintro e4 w4 ⟨rfl, hs⟩
  obtain ⟨L, hL⟩ : ∃ L, L = left.length := ⟨_, rfl⟩
  have p5 := sit_left hs.swap
  rw [← hL] at p5
  obtain ⟨hC, hc, hb, hn⟩ := HC.out
  have hLn : n = L + u := by rw [hL, hu3, List.length_drop]; omega
  have f1 : (0 : Int) < (n : Int) - (L : Int) := by omega
  have f2 : (n : Int) - (L : Int) ≤ (n : Int) := by omega
  have f3 : ((n : Int) - (L : Int)).toNat = u := by omega
  have hcl : (digs v.length ++ v).length = u := by rw [hu2, List.length_take]; omega
  have p6 := sit_all hs.drew (by rw [hcl]; omega)
  have hold := Kd.C_take hC hu1
  have HO := Aside0.mk (And.intro hold (And.intro hu2 (And.intro hu1 (And.intro hcl (And.intro hc hn)))))
  rw [hcl] at p6
  rw [hn] at hLn f1 f2 f3
  have FF := Aside0.mk (show L < b.length ∧ L ≤ b.length ∧ ((b.length : Int) - (L : Int) ≤ (c : Int)) by omega)
  clear p3 hs hC hb hold hu2 hu3 hcl hL hLn
  go_wp2_with fail
  go_at_call 23
  refine p5.mono ?_
  rintro e5 w5 ⟨rfl, rfl⟩
  go_wp2_with fail
  refine wp_region_any (by kernel_rfl) ?_
  refine wpAny_of_held (S := fun _ => True) _ _ _ _ ?_
  change wpAnyH Try.prog .any _ _ _ 17 #[false, false, false, false, false, false, false, false, false, false, false, false, false, false, false, false, false] _ w5.drew
  refine takeL (i := 0) (v := ?_) rfl (by kernel_rfl) (by kernel_rfl) (by kernel_rfl) (fun _ _ _ h => h) (Or.inl ⟨by rfl, ?hy⟩) trivial ?_
  case hy => intro w hSw; first | (go_simp; done) | (go_simp; rfl) | (go_simp; simp; omega) | (go_simp; exact congrArg (fun t => Result.ok (Next.value (Value.bool t)) _) (decide_eq_true (by omega))) | (obtain ⟨x1, x2, x3⟩ := FF.out; go_simp; first | done | exact x1 | (rw [if_pos ⟨x2, x3⟩])) | (obtain ⟨x1, x2, x3⟩ := FF.out; go_simp; simp; exact x1) | (go_simp; trace_state)
  simp only [Act.put, List.setIfInBounds_toArray, List.set_cons_zero, List.set_cons_succ]
  refine takeL (i := 1) (v := .bool true) rfl (by kernel_rfl) (by kernel_rfl) (by kernel_rfl) (fun _ _ _ h => h) (Or.inl ⟨by rfl, ?hy⟩) trivial ?_
  case hy => intro w hSw; first | (go_simp; done) | (go_simp; rfl) | (go_simp; simp; omega) | (go_simp; exact congrArg (fun t => Result.ok (Next.value (Value.bool t)) _) (decide_eq_true (by omega))) | (obtain ⟨x1, x2, x3⟩ := FF.out; go_simp; first | done | exact x1 | (rw [if_pos ⟨x2, x3⟩])) | (obtain ⟨x1, x2, x3⟩ := FF.out; go_simp; simp; exact x1) | (go_simp; trace_state)
  simp only [Act.put, List.setIfInBounds_toArray, List.set_cons_zero, List.set_cons_succ]
  refine takeL (i := 2) (v := ?_) rfl (by kernel_rfl) (by kernel_rfl) (by kernel_rfl) (fun _ _ _ h => h) (Or.inl ⟨by rfl, ?hy⟩) trivial ?_
  case hy => intro w hSw; first | (go_simp; done) | (go_simp; rfl) | (go_simp; simp; omega) | (go_simp; exact congrArg (fun t => Result.ok (Next.value (Value.bool t)) _) (decide_eq_true (by omega))) | (obtain ⟨x1, x2, x3⟩ := FF.out; go_simp; first | done | exact x1 | (rw [if_pos ⟨x2, x3⟩])) | (obtain ⟨x1, x2, x3⟩ := FF.out; go_simp; simp; exact x1) | (go_simp; trace_state)
  simp only [Act.put, List.setIfInBounds_toArray, List.set_cons_zero, List.set_cons_succ]
  refine takeL (i := 3) (v := ?_) rfl (by kernel_rfl) (by kernel_rfl) (by kernel_rfl) (fun _ _ _ h => h) (Or.inl ⟨by rfl, ?hy⟩) trivial ?_
  case hy => intro w hSw; first | (go_simp; done) | (go_simp; rfl) | (go_simp; simp; omega) | (go_simp; exact congrArg (fun t => Result.ok (Next.value (Value.bool t)) _) (decide_eq_true (by omega))) | (obtain ⟨x1, x2, x3⟩ := FF.out; go_simp; first | done | exact x1 | (rw [if_pos ⟨x2, x3⟩])) | (obtain ⟨x1, x2, x3⟩ := FF.out; go_simp; simp; exact x1) | (go_simp; trace_state)
  simp only [Act.put, List.setIfInBounds_toArray, List.set_cons_zero, List.set_cons_succ]
  refine takeL (i := 4) (v := ?_) rfl (by kernel_rfl) (by kernel_rfl) (by kernel_rfl) (fun _ _ _ h => h) (Or.inl ⟨by rfl, ?hy⟩) trivial ?_
  case hy => intro w hSw; first | (go_simp; done) | (go_simp; rfl) | (go_simp; simp; omega) | (go_simp; exact congrArg (fun t => Result.ok (Next.value (Value.bool t)) _) (decide_eq_true (by omega))) | (obtain ⟨x1, x2, x3⟩ := FF.out; go_simp; first | done | exact x1 | (rw [if_pos ⟨x2, x3⟩])) | (obtain ⟨x1, x2, x3⟩ := FF.out; go_simp; simp; exact x1) | (go_simp; trace_state)
  simp only [Act.put, List.setIfInBounds_toArray, List.set_cons_zero, List.set_cons_succ]
  refine takeL (i := 5) (v := ?_) rfl (by kernel_rfl) (by kernel_rfl) (by kernel_rfl) (fun _ _ _ h => h) (Or.inl ⟨by rfl, ?hy⟩) trivial ?_
  case hy => intro w hSw; first | (go_simp; done) | (go_simp; rfl) | (go_simp; simp; omega) | (go_simp; exact congrArg (fun t => Result.ok (Next.value (Value.bool t)) _) (decide_eq_true (by omega))) | (obtain ⟨x1, x2, x3⟩ := FF.out; go_simp; first | done | exact x1 | (rw [if_pos ⟨x2, x3⟩])) | (obtain ⟨x1, x2, x3⟩ := FF.out; go_simp; simp; exact x1) | (go_simp; trace_state)
  simp only [Act.put, List.setIfInBounds_toArray, List.set_cons_zero, List.set_cons_succ]
  refine takeL (i := 6) (v := .bool true) rfl (by kernel_rfl) (by kernel_rfl) (by kernel_rfl) (fun _ _ _ h => h) (Or.inl ⟨by rfl, ?hy⟩) trivial ?_
  case hy => intro w hSw; first | (go_simp; done) | (go_simp; rfl) | (go_simp; simp; omega) | (go_simp; exact congrArg (fun t => Result.ok (Next.value (Value.bool t)) _) (decide_eq_true (by omega))) | (obtain ⟨x1, x2, x3⟩ := FF.out; go_simp; first | done | exact x1 | (rw [if_pos ⟨x2, x3⟩])) | (obtain ⟨x1, x2, x3⟩ := FF.out; go_simp; simp; exact x1) | (go_simp; trace_state)
  simp only [Act.put, List.setIfInBounds_toArray, List.set_cons_zero, List.set_cons_succ]
  refine takeL (i := 7) (v := ?_) rfl (by kernel_rfl) (by kernel_rfl) (by kernel_rfl) (fun _ _ _ h => h) (Or.inl ⟨by rfl, ?hy⟩) trivial ?_
  case hy => intro w hSw; first | (go_simp; done) | (go_simp; rfl) | (go_simp; simp; omega) | (go_simp; exact congrArg (fun t => Result.ok (Next.value (Value.bool t)) _) (decide_eq_true (by omega))) | (obtain ⟨x1, x2, x3⟩ := FF.out; go_simp; first | done | exact x1 | (rw [if_pos ⟨x2, x3⟩])) | (obtain ⟨x1, x2, x3⟩ := FF.out; go_simp; simp; exact x1) | (go_simp; trace_state)
  simp only [Act.put, List.setIfInBounds_toArray, List.set_cons_zero, List.set_cons_succ]
  refine takeL (i := 8) (v := ?_) rfl (by kernel_rfl) (by kernel_rfl) (by kernel_rfl) (fun _ _ _ h => h) (Or.inl ⟨by rfl, ?hy⟩) trivial ?_
  case hy => intro w hSw; first | (go_simp; done) | (go_simp; rfl) | (go_simp; simp; omega) | (go_simp; exact congrArg (fun t => Result.ok (Next.value (Value.bool t)) _) (decide_eq_true (by omega))) | (obtain ⟨x1, x2, x3⟩ := FF.out; go_simp; first | done | exact x1 | (rw [if_pos ⟨x2, x3⟩])) | (obtain ⟨x1, x2, x3⟩ := FF.out; go_simp; simp; exact x1) | (go_simp; trace_state)
  simp only [Act.put, List.setIfInBounds_toArray, List.set_cons_zero, List.set_cons_succ]
  refine takeL (i := 9) (v := ?_) rfl (by kernel_rfl) (by kernel_rfl) (by kernel_rfl) (fun _ _ _ h => h) (Or.inl ⟨by rfl, ?hy⟩) trivial ?_
  case hy => intro w hSw; first | (go_simp; done) | (go_simp; rfl) | (go_simp; simp; omega) | (go_simp; exact congrArg (fun t => Result.ok (Next.value (Value.bool t)) _) (decide_eq_true (by omega))) | (obtain ⟨x1, x2, x3⟩ := FF.out; go_simp; first | done | exact x1 | (rw [if_pos ⟨x2, x3⟩])) | (obtain ⟨x1, x2, x3⟩ := FF.out; go_simp; simp; exact x1) | (go_simp; trace_state)
  simp only [Act.put, List.setIfInBounds_toArray, List.set_cons_zero, List.set_cons_succ]
  refine takeL (i := 11) (v := ?_) rfl (by kernel_rfl) (by kernel_rfl) (by kernel_rfl) (fun _ _ _ h => h) (Or.inl ⟨by rfl, ?hy⟩) trivial ?_
  case hy => intro w hSw; first | (go_simp; done) | (go_simp; rfl) | (go_simp; simp; omega) | (go_simp; exact congrArg (fun t => Result.ok (Next.value (Value.bool t)) _) (decide_eq_true (by omega))) | (obtain ⟨x1, x2, x3⟩ := FF.out; go_simp; first | done | exact x1 | (rw [if_pos ⟨x2, x3⟩])) | (obtain ⟨x1, x2, x3⟩ := FF.out; go_simp; simp; exact x1) | (go_simp; trace_state)
  simp only [Act.put, List.setIfInBounds_toArray, List.set_cons_zero, List.set_cons_succ]
  refine takeL (i := 12) (v := ?_) rfl (by kernel_rfl) (by kernel_rfl) (by kernel_rfl) (fun _ _ _ h => h) (Or.inl ⟨by rfl, ?hy⟩) trivial ?_
  case hy => intro w hSw; first | (go_simp; done) | (go_simp; rfl) | (go_simp; simp; omega) | (go_simp; exact congrArg (fun t => Result.ok (Next.value (Value.bool t)) _) (decide_eq_true (by omega))) | (obtain ⟨x1, x2, x3⟩ := FF.out; go_simp; first | done | exact x1 | (rw [if_pos ⟨x2, x3⟩])) | (obtain ⟨x1, x2, x3⟩ := FF.out; go_simp; simp; exact x1) | (go_simp; trace_state)
  simp only [Act.put, List.setIfInBounds_toArray, List.set_cons_zero, List.set_cons_succ]
  refine takeL (i := 13) (v := .slice A u c) rfl (by kernel_rfl) (by kernel_rfl) (by kernel_rfl) (fun _ _ _ h => h) (Or.inl ⟨by rfl, ?hy⟩) trivial ?_
  case hy => intro w hSw; first | (go_simp; done) | (go_simp; rfl) | (go_simp; simp; omega) | (go_simp; exact congrArg (fun t => Result.ok (Next.value (Value.bool t)) _) (decide_eq_true (by omega))) | (obtain ⟨x1, x2, x3⟩ := FF.out; go_simp; first | done | exact x1 | (rw [if_pos ⟨x2, x3⟩])) | (obtain ⟨x1, x2, x3⟩ := FF.out; go_simp; simp; exact x1) | (go_simp; trace_state)
  simp only [Act.put, List.setIfInBounds_toArray, List.set_cons_zero, List.set_cons_succ]
  refine wpAnyH_ready (rs := [10]) (by kernel_rfl) (by simp) ?_
  refine consL rfl (fun K hK => ?_) AllReadyH.nil
  go_simp
  go_at_call 15
  refine p6.mono ?_
  rintro e6 w6 ⟨A6, c6, rfl, hc6, hs6⟩
  have p7 := only_same hs6 HO.out hlen
  have HS6 := Aside0.mk hs6.below
  clear hs6 p6 hc6
  go_simp
  refine hK.out _ _ trivial (fun _ => ?_)
  clear hK K
  simp only [Act.put, List.setIfInBounds_toArray, List.set_cons_zero, List.set_cons_succ]
  refine wpAnyH_ready (rs := [14]) (by kernel_rfl) (by simp) ?_
  refine consL rfl (fun K hK => ?_) AllReadyH.nil
  go_simp
  go_at_call 14
  refine p7.mono ?_
  rintro e7 w7 ⟨rfl, hd⟩
  have HD := Aside0.mk hd
  clear hd p7
  go_simp
  refine hK.out _ _ trivial (fun _ => ?_)
  clear hK K
  simp only [Act.put, List.setIfInBounds_toArray, List.set_cons_zero, List.set_cons_succ]
  refine takeL (i := 15) (v := ?_) rfl (by kernel_rfl) (by kernel_rfl) (by kernel_rfl) (fun _ _ _ h => h) (Or.inl ⟨by rfl, ?hy⟩) trivial ?_
  case hy => intro w hSw; first | (go_simp; done) | (go_simp; rfl) | (go_simp; simp; omega) | (go_simp; exact congrArg (fun t => Result.ok (Next.value (Value.bool t)) _) (decide_eq_true (by omega))) | (obtain ⟨x1, x2, x3⟩ := FF.out; go_simp; first | done | exact x1 | (rw [if_pos ⟨x2, x3⟩])) | (obtain ⟨x1, x2, x3⟩ := FF.out; go_simp; simp; exact x1) | (go_simp; trace_state)
  simp only [Act.put, List.setIfInBounds_toArray, List.set_cons_zero, List.set_cons_succ]
  refine takeL (i := 16) (v := ?_) rfl (by kernel_rfl) (by kernel_rfl) (by kernel_rfl) (fun _ _ _ h => h) (Or.inl ⟨by rfl, ?hy⟩) trivial ?_
  case hy => intro w hSw; first | (go_simp; done) | (go_simp; rfl) | (go_simp; simp; omega) | (go_simp; exact congrArg (fun t => Result.ok (Next.value (Value.bool t)) _) (decide_eq_true (by omega))) | (obtain ⟨x1, x2, x3⟩ := FF.out; go_simp; first | done | exact x1 | (rw [if_pos ⟨x2, x3⟩])) | (obtain ⟨x1, x2, x3⟩ := FF.out; go_simp; simp; exact x1) | (go_simp; trace_state)
  simp only [Act.put, List.setIfInBounds_toArray, List.set_cons_zero, List.set_cons_succ]
  refine wpAnyH_done (by kernel_rfl) ?_ _
  go_wp2
  go_ret
  exact ⟨rfl, drawn_below HS6.out HD.out⟩

theorem bytes_of_wf {l : List Int} (h : ∀ z ∈ l, (Lit.int .u8 z).wf = true) : Bytes l := fun x hx => by
  have := h x hx
  simp [Lit.wf, IntKind.min, IntKind.max, IntKind.bits, IntKind.signed] at this
  omega
set_option maxRecDepth 100000 in
set_option maxHeartbeats 8000000 in
theorem only_long (A : Option Addr) (n c : Nat) (k : Int) (w : World) (hm : 6000 < n) : Calls Try.prog 6 #[.slice A n c, .int .i64 k] w fun e w' => e = .returned (.bool true) ∧ Below w.heap.size w w' := by
  have h1 : (6000 : Int) < (n : Int) := by omega
  go_enter Try.func6, Try.ntmps6
  go_wp2_with (go_at_call 8; refine (awake_any w).mono ?_; rintro e w1 ⟨rfl, hb⟩; have HB := Aside0.mk hb; clear hb)
  go_ret
  exact ⟨rfl, HB.out⟩
theorem codeOnly_calls (A : Option Addr) (c : Nat) (b : List Int) (k : Int) (w : World) (h1 : b.length ≤ maxLen) (h2 : ∀ z ∈ b, (Lit.int .u8 z).wf = true) (h0 : (Lit.int .i64 k).wf = true) (hC : Kd.C (Kd.int .u8) w A b.length b) (hc : b.length ≤ c) : Calls Try.prog 6 #[.slice A b.length c, .int .i64 k] w fun e w' => e = .returned (.bool true) ∧ Below w.heap.size w w' := by
  have hb := bytes_of_wf h2
  by_cases hm : 6000 < b.length
  · exact only_long A _ c k w hm
  · by_cases k0 : k = 0
    · obtain ⟨p, q⟩ := only_num hb
      by_cases he : (getNum b).e = 0
      · obtain ⟨v0, v1, u, u0, u1, u2, u3⟩ := q he
        exact only0_good A _ c b k w rfl (by omega) hC hc hb k0 _ _ _ rfl v0 v1 he u u0 u1 u2 u3
      · obtain ⟨p1, p2⟩ := p he
        have q0 : 0 ≤ (getNum b).v := by rw [p2]; decide
        have q1 : (getNum b).v < 9223372036854775808 := by rw [p2]; decide
        exact only0_bad A _ c b k w rfl (by omega) hC hc hb k0 _ _ _ rfl q0 q1 he p1
    · by_cases k1 : k = 1
      · obtain ⟨p, q⟩ := only_int hb
        by_cases he : (getInt b).e = 0
        · obtain ⟨v0, v1, u, u0, u1, u2, u3⟩ := q he
          exact only1_good A _ c b k w rfl (by omega) hC hc hb k1 _ _ _ rfl v0 v1 he u u0 u1 u2 u3
        · obtain ⟨p1, p2⟩ := p he
          have q0 : -9223372036854775808 ≤ (getInt b).v := by rw [p2]; decide
          have q1 : (getInt b).v < 9223372036854775808 := by rw [p2]; decide
          exact only1_bad A _ c b k w rfl (by omega) hC hc hb k1 _ _ _ rfl q0 q1 he p1
      · obtain ⟨p, q⟩ := only_bytes hb
        by_cases he : (getBytes b).e = 0
        · obtain ⟨v1, u, u0, u1, u2, u3⟩ := q he
          exact only2_good A _ c b k w rfl (by omega) hC hc hb ⟨k0, k1⟩ _ _ _ rfl v1 he u u0 u1 u2 u3
        · obtain ⟨p1, p2⟩ := p he
          have q1 : (getBytes b).v.length ≤ 4096 := by rw [p2]; simp
          exact only2_bad A _ c b k w rfl (by omega) hC hc hb ⟨k0, k1⟩ _ _ _ rfl q1 he p1
end Go.Proofs.Ytamgeophebillaa.Code
