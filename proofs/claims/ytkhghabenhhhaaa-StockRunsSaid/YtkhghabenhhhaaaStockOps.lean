/- Take, Free, Ship, Adjust, Move, At: the walks. No conditions beside those that each contract states. -/
import Derived.Test.YtkhghabenhhhaaaStockTurn
namespace Go.Proofs.Ytkhghabenhhhaaa.Stock
open Go.RowKit Go.Proofs.Ytkhghabenhhhaaa.Pa Go.Proofs.YtkhghabenhhhaaaW.PrintWords Go.Proofs.YtkhghabenhhhaaaW.PrintLast Go.Proofs.YtkhghabenhhhaaaW.PrintMore Go.Proofs.Ytkhghabenhhhaaa.Sl
set_option linter.unusedVariables false
set_option linter.unusedSimpArgs false

theorem takeF_key (q : Int) (x : Spot) : (takeF q x).2.f0 = x.f0 ∧ (takeF q x).2.f1 = x.f1 := ⟨rfl, rfl⟩
theorem freeF_key (q : Int) (x : Spot) : (freeF q x).2.f0 = x.f0 ∧ (freeF q x).2.f1 = x.f1 := ⟨rfl, rfl⟩
theorem shipF_key (q : Int) (x : Spot) : (shipF q x).2.f0 = x.f0 ∧ (shipF q x).2.f1 = x.f1 := ⟨rfl, rfl⟩
theorem lessF_key (q : Int) (x : Spot) : (lessF q x).2.f0 = x.f0 ∧ (lessF q x).2.f1 = x.f1 := by unfold lessF; split <;> exact ⟨rfl, rfl⟩
theorem holdF_key (q : Int) (x : Spot) : (holdF q x).2.f0 = x.f0 ∧ (holdF q x).2.f1 = x.f1 := by unfold holdF; split <;> exact ⟨rfl, rfl⟩
theorem cell_new3 (w : World) (a b c : Value) (e : TypeId) : (w.alloc (.cells #[a, b, c] e)).cell? ⟨w.heap.size, 0, none⟩ = some a ∧ (w.alloc (.cells #[a, b, c] e)).cell? ⟨w.heap.size, 1, none⟩ = some b ∧ (w.alloc (.cells #[a, b, c] e)).cell? ⟨w.heap.size, 2, none⟩ = some c := by
  have h := heap_alloc_new w (.cells #[a, b, c] e)
  exact ⟨by rw [cell_of_row _ _ _ _ _ _ h]; rfl, by rw [cell_of_row _ _ _ _ _ _ h]; rfl, by rw [cell_of_row _ _ _ _ _ _ h]; rfl⟩
theorem FreshE.below {w w1 : World} {r : List Spot × Int} {e : Ending} {w' : World} (h : FreshE w1 r e w') (hb : Below w.heap.size w w1) : FreshE w r e w' := by
  obtain ⟨v, rfl, hv, hb2⟩ := h
  exact ⟨v, rfl, Kd.R_lower hv hb.size, below_then hb hb.size hb2⟩
set_option maxRecDepth 100000 in
set_option maxHeartbeats 8000000 in
theorem take_any (A : Option Addr) (c : Nat) (l : List Spot) (sku loc qty : Int) (w : World) (hC : Kd.C k37 w A l.length l) (hc : l.length ≤ c) (hl : Lim l) (hq : inI qty) :
    Calls Try.prog 20 #[.slice A l.length c, .agg #[.int .i64 sku, .int .i64 loc, .int .i64 qty]] w (FreshE w (turnedP (takeF qty) l sku loc qty)) := by
  have hw0 : Below w.heap.size w (w.alloc (.cells #[.int .i64 sku, .int .i64 loc, .int .i64 qty] 32)) := (Below.refl _ _).alloc (Nat.le_refl _) _
  have hcell := (cell_new3 w (.int .i64 sku) (.int .i64 loc) (.int .i64 qty) 32).2.2
  have p := turned_any41 (takeF qty) w.heap.size 2 qty A c l sku loc qty _ (Kd.C_below hC hw0) hc hl hcell (takeF_key qty) (fun h0 b x W h1 h2 h3 h4 => take_clo b w.heap.size x qty W h1 h2 h3 hq)
  have P := Aside0.mk (And.intro p hw0)
  obtain ⟨n, hn⟩ : ∃ n, n = l.length := ⟨_, rfl⟩
  rw [← hn] at P ⊢
  obtain ⟨r, hr⟩ : ∃ r, r = turnedP (takeF qty) l sku loc qty := ⟨_, rfl⟩
  rw [← hr] at P ⊢
  clear hC hc hl hq hw0 hcell p hn hr
  go_enter Try.func20, Try.ntmps20
  go_wp2_with fail
  go_at_call 26
  refine P.out.1.mono ?_
  rintro e w1 h
  obtain ⟨v, rfl, hv, hb⟩ := h.below P.out.2
  have HV := Aside0.mk (And.intro hv hb)
  clear hv hb h
  go_wp2
  go_ret2
  exact ⟨v, rfl, HV.out.1, HV.out.2⟩
set_option maxRecDepth 100000 in
set_option maxHeartbeats 8000000 in
theorem freeL_any (A : Option Addr) (c : Nat) (l : List Spot) (sku loc qty : Int) (w : World) (hC : Kd.C k37 w A l.length l) (hc : l.length ≤ c) (hl : Lim l) (hq : inI qty) :
    Calls Try.prog 17 #[.slice A l.length c, .agg #[.int .i64 sku, .int .i64 loc, .int .i64 qty]] w (FreshE w (turnedP (freeF qty) l sku loc qty)) := by
  have hw0 : Below w.heap.size w (w.alloc (.cells #[.int .i64 sku, .int .i64 loc, .int .i64 qty] 32)) := (Below.refl _ _).alloc (Nat.le_refl _) _
  have hcell := (cell_new3 w (.int .i64 sku) (.int .i64 loc) (.int .i64 qty) 32).2.2
  have p := turned_any36 (freeF qty) w.heap.size 2 qty A c l sku loc qty _ (Kd.C_below hC hw0) hc hl hcell (freeF_key qty) (fun h0 b x W h1 h2 h3 h4 => free_clo b w.heap.size x qty W h1 h2 h3 hq)
  have P := Aside0.mk (And.intro p hw0)
  obtain ⟨n, hn⟩ : ∃ n, n = l.length := ⟨_, rfl⟩
  rw [← hn] at P ⊢
  obtain ⟨r, hr⟩ : ∃ r, r = turnedP (freeF qty) l sku loc qty := ⟨_, rfl⟩
  rw [← hr] at P ⊢
  clear hC hc hl hq hw0 hcell p hn hr
  go_enter Try.func17, Try.ntmps17
  go_wp2_with fail
  go_at_call 26
  refine P.out.1.mono ?_
  rintro e w1 h
  obtain ⟨v, rfl, hv, hb⟩ := h.below P.out.2
  have HV := Aside0.mk (And.intro hv hb)
  clear hv hb h
  go_wp2
  go_ret2
  exact ⟨v, rfl, HV.out.1, HV.out.2⟩
set_option maxRecDepth 100000 in
set_option maxHeartbeats 8000000 in
theorem ship_any (A : Option Addr) (c : Nat) (l : List Spot) (sku loc qty : Int) (w : World) (hC : Kd.C k37 w A l.length l) (hc : l.length ≤ c) (hl : Lim l) (hq : inI qty) :
    Calls Try.prog 18 #[.slice A l.length c, .agg #[.int .i64 sku, .int .i64 loc, .int .i64 qty]] w (FreshE w (turnedP (shipF qty) l sku loc qty)) := by
  have hw0 : Below w.heap.size w (w.alloc (.cells #[.int .i64 sku, .int .i64 loc, .int .i64 qty] 32)) := (Below.refl _ _).alloc (Nat.le_refl _) _
  have hcell := (cell_new3 w (.int .i64 sku) (.int .i64 loc) (.int .i64 qty) 32).2.2
  have p := turned_any38 (shipF qty) w.heap.size 2 qty A c l sku loc qty _ (Kd.C_below hC hw0) hc hl hcell (shipF_key qty) (fun h0 b x W h1 h2 h3 h4 => ship_clo b w.heap.size x qty W h1 h2 h3 ⟨h0, hq.2⟩ h4)
  have P := Aside0.mk (And.intro p hw0)
  obtain ⟨n, hn⟩ : ∃ n, n = l.length := ⟨_, rfl⟩
  rw [← hn] at P ⊢
  obtain ⟨r, hr⟩ : ∃ r, r = turnedP (shipF qty) l sku loc qty := ⟨_, rfl⟩
  rw [← hr] at P ⊢
  clear hC hc hl hq hw0 hcell p hn hr
  go_enter Try.func18, Try.ntmps18
  go_wp2_with fail
  go_at_call 26
  refine P.out.1.mono ?_
  rintro e w1 h
  obtain ⟨v, rfl, hv, hb⟩ := h.below P.out.2
  have HV := Aside0.mk (And.intro hv hb)
  clear hv hb h
  go_wp2
  go_ret2
  exact ⟨v, rfl, HV.out.1, HV.out.2⟩
/-- What 'less' makes. -/
theorem less_any (q : Int) (w : World) : Calls Try.prog 40 #[.int .i64 q] w fun e w' => e = .returned (.func (.func 51) #[] #[.pointer (some ⟨w.heap.size, 0, none⟩)]) ∧ w'.cell? ⟨w.heap.size, 0, none⟩ = some (.int .i64 q) ∧ Below w.heap.size w w' := by
  go_enter Try.func40, Try.ntmps40
  go_wp2
  go_ret
  exact ⟨rfl, by rw [cell_of_row _ _ _ _ _ _ (heap_alloc_new w (.cells #[.int .i64 q] 3))]; rfl, (Below.refl _ _).alloc (Nat.le_refl _) _⟩
def adjustP (l : List Spot) (sku loc qty : Int) : List Spot × Int :=
  if 0 ≤ qty then turnedP (takeF qty) l sku loc qty else if knownP l sku loc = 0 then (if qty = -9223372036854775808 then ([], 31) else turnedP (lessF (-qty)) l sku loc (-qty)) else ([], knownP l sku loc)
set_option maxRecDepth 100000 in
set_option maxHeartbeats 16000000 in
theorem adjust_any (A : Option Addr) (c : Nat) (l : List Spot) (sku loc qty : Int) (w : World) (hC : Kd.C k37 w A l.length l) (hc : l.length ≤ c) (hl : Lim l) (hq : inI qty) :
    Calls Try.prog 19 #[.slice A l.length c, .agg #[.int .i64 sku, .int .i64 loc, .int .i64 qty]] w (FreshE w (adjustP l sku loc qty)) := by
  have hw0 : Below w.heap.size w (w.alloc (.cells #[.int .i64 sku, .int .i64 loc, .int .i64 qty] 32)) := (Below.refl _ _).alloc (Nat.le_refl _) _
  have HX := Aside0.mk (And.intro hC (And.intro hc (And.intro hl hq)))
  have HW := Aside0.mk hw0
  obtain ⟨n, hn⟩ : ∃ n, n = l.length := ⟨_, rfl⟩
  have HN := Aside0.mk hn
  unfold adjustP
  by_cases h0 : 0 ≤ qty
  · rw [if_pos h0]
    have p := take_any A c l sku loc qty _ (Kd.C_below hC hw0) hc hl hq
    rw [← hn] at p ⊢
    obtain ⟨r, hr⟩ : ∃ r, r = turnedP (takeF qty) l sku loc qty := ⟨_, rfl⟩
    rw [← hr] at p ⊢
    clear hC hc hl hq hw0 hn hr
    go_enter Try.func19, Try.ntmps19
    go_wp2_with fail
    go_at_call 20
    refine p.mono ?_
    rintro e w1 h
    obtain ⟨v, rfl, hv, hb⟩ := h.below HW.out
    have HV := Aside0.mk (And.intro hv hb)
    clear hv hb h
    go_wp2
    go_ret2
    exact ⟨v, rfl, HV.out.1, HV.out.2⟩
  · rw [if_neg h0]
    have pk := known_any A c l sku loc _ (Kd.C_below hC hw0) hc hl.1
    obtain ⟨kk, hkk⟩ : ∃ kk, kk = knownP l sku loc := ⟨_, rfl⟩
    rw [← hkk, ← hn] at pk
    rw [← hkk, ← hn]
    by_cases hk0 : kk = 0
    · rw [if_pos hk0]
      subst hk0
      by_cases hm : qty = -9223372036854775808
      · rw [if_pos hm]
        have e1 : (qty == -9223372036854775808) = true := beq_iff_eq.2 hm
        clear hC hc hl hq hw0 hn hkk hm
        go_enter Try.func19, Try.ntmps19
        go_wp2_with fail
        go_at_call 39
        refine pk.mono ?_
        rintro e w1 ⟨rfl, hb⟩
        have k1 := (hb.block w.heap.size (by simp)).trans (heap_alloc_new w _)
        have x2 : w1.cell? ⟨w.heap.size, 2, none⟩ = some (.int .i64 qty) := by rw [cell_of_row _ _ _ _ _ _ k1]; rfl
        have HB := Aside0.mk (below_then HW.out (by simp) hb)
        clear hb k1 pk
        go_wp2
        go_ret2
        exact ⟨_, rfl, Kd.R_nil _ _ _ _ _, HB.out⟩
      · rw [if_neg hm]
        have e1 : (qty == -9223372036854775808) = false := beq_eq_false_iff_ne.2 hm
        have hq1 : 0 < -qty ∧ -qty < 9223372036854775808 := by have := hq.1; omega
        have hqn : -9223372036854775808 < qty := by have := hq.1; omega
        have HQ := Aside0.mk hq1
        obtain ⟨m, hm2⟩ : ∃ m, m = -qty := ⟨_, rfl⟩
        obtain ⟨r, hr⟩ : ∃ r, r = turnedP (lessF (-qty)) l sku loc (-qty) := ⟨_, rfl⟩
        rw [← hr]
        rw [← hm2] at hr
        have HM := Aside0.mk hm2
        have HR := Aside0.mk hr
        clear hC hc hl hq hw0 hn hkk hm hq1 hr hm2
        go_enter Try.func19, Try.ntmps19
        go_wp2_with fail
        go_at_call 39
        refine pk.mono ?_
        rintro e w1 ⟨rfl, hb⟩
        have k1 := (hb.block w.heap.size (by simp)).trans (heap_alloc_new w _)
        have x0 : w1.cell? ⟨w.heap.size, 0, none⟩ = some (.int .i64 sku) := by rw [cell_of_row _ _ _ _ _ _ k1]; rfl
        have x1 : w1.cell? ⟨w.heap.size, 1, none⟩ = some (.int .i64 loc) := by rw [cell_of_row _ _ _ _ _ _ k1]; rfl
        have x2 : w1.cell? ⟨w.heap.size, 2, none⟩ = some (.int .i64 qty) := by rw [cell_of_row _ _ _ _ _ _ k1]; rfl
        have x3 : w1.frozen? ⟨w.heap.size, 2, none⟩ = false := by simp [World.frozen?, k1]
        have HB := Aside0.mk (And.intro (below_then HW.out (by simp) hb) k1)
        clear hb k1 pk
        go_wp2
        rw [← HM.out]
        obtain ⟨w2, hw2⟩ : ∃ w2 : World, w2 = w1.setCell ⟨w.heap.size, 2, none⟩ (.int .i64 m) := ⟨_, rfl⟩
        have k2 : w2.heap[w.heap.size]? = some (.cells #[.int .i64 sku, .int .i64 loc, .int .i64 m] 32 (0, 0)) := by rw [hw2, blk_set HB.out.2]; rfl
        have hb2 : Below w.heap.size w w2 := by rw [hw2]; exact HB.out.1.setCell (p := ⟨w.heap.size, 2, none⟩) (Nat.le_refl _) _
        rw [← hw2]
        have HB2 := Aside0.mk (And.intro hb2 k2)
        have y0 : w2.cell? ⟨w.heap.size, 0, none⟩ = some (.int .i64 sku) := by rw [cell_of_row _ _ _ _ _ _ k2]; rfl
        have y1 : w2.cell? ⟨w.heap.size, 1, none⟩ = some (.int .i64 loc) := by rw [cell_of_row _ _ _ _ _ _ k2]; rfl
        have y2 : w2.cell? ⟨w.heap.size, 2, none⟩ = some (.int .i64 m) := by rw [cell_of_row _ _ _ _ _ _ k2]; rfl
        clear hw2 k2 hb2 x0 x1 x2 x3
        have pt := fun (W : World) (hk : W.cell? ⟨w2.heap.size, 0, none⟩ = some (.int .i64 m)) (hb : Below w.heap.size w W) => turned_any51 (lessF m) w2.heap.size 0 m A c l sku loc m W (Kd.C_below HX.out.1 hb) HX.out.2.1 HX.out.2.2.1 hk (lessF_key m) (fun h0 b x W h1 h2 h3 h4 => less_clo b w2.heap.size x m W h1 h2 h3 (by rw [HM.out]; exact HQ.out))
        rw [← HR.out, ← HN.out] at pt
        have PT := Aside0.mk pt
        clear pt
        go_region_law (first | (go_simp; go_at_call 40; refine (less_any m _).mono ?_; rintro e w3 ⟨rfl, k3, hb3⟩; have z0 := pw_cell_below hb3 y0; have z1 := pw_cell_below hb3 y1; have z2 := pw_cell_below hb3 y2; have HB3 := Aside0.mk (And.intro k3 (below_then (below_drew HB2.out.1) HB2.out.1.size hb3)); clear k3 hb3) | (go_simp; go_at_call 26; refine (PT.out _ HB3.out.1 HB3.out.2).mono ?_; rintro e w4 h; obtain ⟨v, rfl, hv, hb⟩ := h.below HB3.out.2; have HV := Aside0.mk (And.intro hv hb); clear hv hb h))
        all_goals
          go_wp2
          go_ret2
          exact ⟨v, rfl, HV.out.1, HV.out.2⟩
    · rw [if_neg hk0]
      have e1 : (kk != 0) = true := by simp [hk0]
      clear hC hc hl hq hw0 hn hkk hk0
      go_enter Try.func19, Try.ntmps19
      go_wp2_with (go_at_call 39; refine pk.mono ?_; rintro e w1 ⟨rfl, hb⟩; have HB := Aside0.mk (below_then HW.out (by simp) hb); clear hb)
      go_ret2
      exact ⟨_, rfl, Kd.R_nil _ _ _ _ _, HB.out⟩

end Go.Proofs.Ytkhghabenhhhaaa.Stock
