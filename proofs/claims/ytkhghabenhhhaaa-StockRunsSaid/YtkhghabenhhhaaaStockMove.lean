/- Move: the walk. No conditions beside those that the contract states. -/
import Derived.Test.YtkhghabenhhhaaaStockOps
namespace Go.Proofs.Ytkhghabenhhhaaa.Stock
open Go.RowKit Go.Proofs.Ytkhghabenhhhaaa.Pa Go.Proofs.YtkhghabenhhhaaaW.PrintWords Go.Proofs.YtkhghabenhhhaaaW.PrintLast Go.Proofs.YtkhghabenhhhaaaW.PrintMore Go.Proofs.Ytkhghabenhhhaaa.Sl
set_option linter.unusedVariables false
set_option linter.unusedSimpArgs false

theorem pair_any (a b : Int) (w : World) : Calls Try.prog 22 #[.int .i64 a, .int .i64 b] w fun e w' => e = .returned (.bool (pairB a b)) ∧ Drawn0 w w' := stock_pair.calls a b _ w (pair_f a b)
theorem Lim.put {l : List Spot} {s : Spot} (h : Lim l) (hm : May l) (hs : s.f2 < 9223372036854775808) : Lim (putS l s) := by
  refine ⟨?_, fun x hx => ?_⟩
  · have h1 := hm.length
    have h2 := List.length_filter_le (fun x => decide (ky x < ky s)) l
    have h3 := List.length_filter_le (fun x => decide (ky s < ky x)) l
    unfold putS
    rw [List.length_append, List.length_append]
    have h4 : (if s.f2 = 0 then [] else [s]).length ≤ 1 := by split <;> simp
    omega
  · rcases putS_mem.1 hx with h1 | h1
    · exact h.2 x h1.1
    · rw [h1.2]; exact hs
theorem Lim.nil : Lim [] := ⟨by simp, by simp⟩
theorem Lim.turned {F : Spot → Int × Spot} {l : List Spot} (h : Lim l) (hF : ∀ x, sound x → (F x).2.f2 < 9223372036854775808) (sku loc qty : Int) : Lim (turnedP F l sku loc qty).1 := by
  unfold turnedP
  split
  · have hk := knownP_zero (by assumption)
    split
    · exact Lim.nil
    · split
      · exact h.put hk.1 (hF _ (getS_sound hk.1 h _ _))
      · exact Lim.nil
  · exact Lim.nil
theorem lessF_lim {q : Int} (hq : 0 < q) (x : Spot) (h : sound x) : (lessF q x).2.f2 < 9223372036854775808 := by
  have := h.2.2
  unfold lessF
  split
  · exact this
  · show x.f2 - q < _; omega
def moveP (l : List Spot) (sku loc qty tw : Int) : List Spot × Int :=
  if knownP l sku loc = 0 then (if pairB sku tw = true then (if qty ≤ 0 ∨ tw = loc then ([], 1) else if (turnedP (lessF qty) l sku loc qty).2 = 0 then turnedP (takeF qty) (turnedP (lessF qty) l sku loc qty).1 sku tw qty else ([], (turnedP (lessF qty) l sku loc qty).2)) else ([], 3)) else ([], knownP l sku loc)
set_option maxRecDepth 100000 in
set_option maxHeartbeats 16000000 in
theorem move_any (A : Option Addr) (c : Nat) (l : List Spot) (sku loc qty tw : Int) (w : World) (hC : Kd.C k37 w A l.length l) (hc : l.length ≤ c) (hl : Lim l) (hq : inI qty) :
    Calls Try.prog 21 #[.slice A l.length c, .agg #[.int .i64 sku, .int .i64 loc, .int .i64 qty], .int .i64 tw] w (FreshE w (moveP l sku loc qty tw)) := by
  have hw0 : Below w.heap.size w (w.alloc (.cells #[.int .i64 sku, .int .i64 loc, .int .i64 qty] 32)) := (Below.refl _ _).alloc (Nat.le_refl _) _
  have HX := Aside0.mk (And.intro hC (And.intro hc (And.intro hl hq)))
  have HW := Aside0.mk hw0
  obtain ⟨n, hn⟩ : ∃ n, n = l.length := ⟨_, rfl⟩
  have HN := Aside0.mk hn
  unfold moveP
  have pk := known_any A c l sku loc _ (Kd.C_below hC hw0) hc hl.1
  obtain ⟨kk, hkk⟩ : ∃ kk, kk = knownP l sku loc := ⟨_, rfl⟩
  rw [← hkk, ← hn] at pk
  rw [← hkk, ← hn]
  have pp := fun w' => pair_any sku tw w'
  obtain ⟨pb, hpb⟩ : ∃ pb, pb = pairB sku tw := ⟨_, rfl⟩
  rw [← hpb]
  rw [← hpb] at pp
  have HPB := Aside0.mk hpb
  clear hpb
  by_cases hk0 : kk = 0
  · rw [if_pos hk0]
    subst hk0
    cases pb with
    | false =>
      rw [if_neg (by simp)]
      have PP := Aside0.mk pp
      clear hC hc hl hq hw0 hn hkk pp
      go_enter Try.func21, Try.ntmps21
      go_wp2_with fail
      go_at_call 39
      refine pk.mono ?_
      rintro e w1 ⟨rfl, hb⟩
      have k1 := (hb.block w.heap.size (by simp)).trans (heap_alloc_new w _)
      have x0 : w1.cell? ⟨w.heap.size, 0, none⟩ = some (.int .i64 sku) := by rw [cell_of_row _ _ _ _ _ _ k1]; rfl
      have HB := Aside0.mk (below_then HW.out (by simp) hb)
      clear hb k1 pk
      go_wp2_with (go_at_call 22; refine (PP.out _).mono ?_; rintro e w2 ⟨rfl, ⟨nd, rfl⟩⟩)
      go_ret2
      exact ⟨_, rfl, Kd.R_nil _ _ _ _ _, pw_below_drewN HB.out _⟩
    | true =>
      rw [if_pos rfl]
      have PP := Aside0.mk pp
      by_cases hbad : qty ≤ 0 ∨ tw = loc
      · rw [if_pos hbad]
        clear hC hc hl hq hw0 hn hkk pp
        by_cases h0 : qty ≤ 0
        · clear hbad
          go_enter Try.func21, Try.ntmps21
          go_wp2_with fail
          go_at_call 39
          refine pk.mono ?_
          rintro e w1 ⟨rfl, hb⟩
          have k1 := (hb.block w.heap.size (by simp)).trans (heap_alloc_new w _)
          have x0 : w1.cell? ⟨w.heap.size, 0, none⟩ = some (.int .i64 sku) := by rw [cell_of_row _ _ _ _ _ _ k1]; rfl
          have x2 : w1.cell? ⟨w.heap.size, 2, none⟩ = some (.int .i64 qty) := by rw [cell_of_row _ _ _ _ _ _ k1]; rfl
          have HB := Aside0.mk (below_then HW.out (by simp) hb)
          clear hb k1 pk
          go_wp2_with (go_at_call 22; refine (PP.out _).mono ?_; rintro e w2 ⟨rfl, ⟨nd, rfl⟩⟩)
          go_ret2
          exact ⟨_, rfl, Kd.R_nil _ _ _ _ _, pw_below_drewN HB.out _⟩
        · have htl : tw = loc := by omega
          have e2 : (tw == loc) = true := beq_iff_eq.2 htl
          clear hbad htl
          go_enter Try.func21, Try.ntmps21
          go_wp2_with fail
          go_at_call 39
          refine pk.mono ?_
          rintro e w1 ⟨rfl, hb⟩
          have k1 := (hb.block w.heap.size (by simp)).trans (heap_alloc_new w _)
          have x0 : w1.cell? ⟨w.heap.size, 0, none⟩ = some (.int .i64 sku) := by rw [cell_of_row _ _ _ _ _ _ k1]; rfl
          have x1 : w1.cell? ⟨w.heap.size, 1, none⟩ = some (.int .i64 loc) := by rw [cell_of_row _ _ _ _ _ _ k1]; rfl
          have x2 : w1.cell? ⟨w.heap.size, 2, none⟩ = some (.int .i64 qty) := by rw [cell_of_row _ _ _ _ _ _ k1]; rfl
          have HB := Aside0.mk (below_then HW.out (by simp) hb)
          clear hb k1 pk
          go_wp2_with (go_at_call 22; refine (PP.out _).mono ?_; rintro e w2 ⟨rfl, ⟨nd, rfl⟩⟩)
          go_ret2
          exact ⟨_, rfl, Kd.R_nil _ _ _ _ _, pw_below_drewN HB.out _⟩
      · rw [if_neg hbad]
        have h0 : 0 < qty := by omega
        have htl : tw ≠ loc := by omega
        have e2 : (tw == loc) = false := beq_eq_false_iff_ne.2 htl
        obtain ⟨r, hr⟩ : ∃ r, r = turnedP (lessF qty) l sku loc qty := ⟨_, rfl⟩
        rw [← hr]
        have hrl : Lim r.1 := by rw [hr]; exact hl.turned (lessF_lim h0) _ _ _
        obtain ⟨res, hres⟩ : ∃ res : List Spot × Int, res = (if r.2 = 0 then turnedP (takeF qty) r.1 sku tw qty else ([], r.2)) := ⟨_, rfl⟩
        rw [← hres]
        have HR := Aside0.mk hr
        have HRL := Aside0.mk hrl
        have HRES := Aside0.mk hres
        have HQ := Aside0.mk (And.intro hq h0)
        clear hC hc hl hq hw0 hn hkk pp hbad htl hr hrl hres
        go_enter Try.func21, Try.ntmps21
        go_wp2_with fail
        go_at_call 39
        refine pk.mono ?_
        rintro e w1 ⟨rfl, hb⟩
        have k1 := (hb.block w.heap.size (by simp)).trans (heap_alloc_new w _)
        have x0 : w1.cell? ⟨w.heap.size, 0, none⟩ = some (.int .i64 sku) := by rw [cell_of_row _ _ _ _ _ _ k1]; rfl
        have x1 : w1.cell? ⟨w.heap.size, 1, none⟩ = some (.int .i64 loc) := by rw [cell_of_row _ _ _ _ _ _ k1]; rfl
        have x2 : w1.cell? ⟨w.heap.size, 2, none⟩ = some (.int .i64 qty) := by rw [cell_of_row _ _ _ _ _ _ k1]; rfl
        have HB := Aside0.mk (below_then HW.out (by simp) hb)
        clear hb k1 pk
        go_wp2_with (go_at_call 22; refine (PP.out _).mono ?_; rintro e w2 ⟨rfl, ⟨nd, rfl⟩⟩)
        obtain ⟨w2, hw2⟩ : ∃ w2, w2 = w1.drewN nd := ⟨_, rfl⟩
        rw [← hw2]
        have hb2 : Below w.heap.size w w2 := by rw [hw2]; exact pw_below_drewN HB.out _
        have y0 : w2.cell? ⟨w.heap.size, 0, none⟩ = some (.int .i64 sku) := by rw [hw2]; exact x0
        have y1 : w2.cell? ⟨w.heap.size, 1, none⟩ = some (.int .i64 loc) := by rw [hw2]; exact x1
        have y2 : w2.cell? ⟨w.heap.size, 2, none⟩ = some (.int .i64 qty) := by rw [hw2]; exact x2
        have HB2 := Aside0.mk hb2
        have Y0 := Aside0.mk y0
        have Y2 := Aside0.mk y2
        clear hw2 hb2 x0 x1 x2
        have pt := fun (W : World) (hk : W.cell? ⟨w2.heap.size, 0, none⟩ = some (.int .i64 qty)) (hb : Below w.heap.size w W) => turned_any51 (lessF qty) w2.heap.size 0 qty A c l sku loc qty W (Kd.C_below HX.out.1 hb) HX.out.2.1 HX.out.2.2.1 hk (lessF_key qty) (fun h0 b x W h1 h2 h3 h4 => less_clo b w2.heap.size x qty W h1 h2 h3 ⟨h0, HQ.out.1.2⟩)
        rw [← HR.out, ← HN.out] at pt
        have PT := Aside0.mk pt
        clear pt
        go_region_law (first | (go_simp; go_at_call 40; refine (less_any qty _).mono ?_; rintro e w3 ⟨rfl, k3, hb3⟩; have z0 := pw_cell_below hb3 y0; have z1 := pw_cell_below hb3 y1; have z2 := pw_cell_below hb3 y2; have HB3 := Aside0.mk (And.intro k3 (And.intro (below_then (below_drew HB2.out) HB2.out.size hb3) (And.intro z0 z2))); clear k3 hb3) | (go_simp; go_at_call 26; refine (PT.out _ HB3.out.1 HB3.out.2.1).mono ?_; rintro e w4 ⟨v, rfl, hv, hb⟩; have HV := Aside0.mk (And.intro (Kd.R_lower hv HB3.out.2.1.size) (And.intro (below_then HB3.out.2.1 HB3.out.2.1.size hb) (And.intro (pw_cell_below hb HB3.out.2.2.1) (pw_cell_below hb HB3.out.2.2.2)))); clear hv hb))
        all_goals
          clear z0 z1 z2
          have u0 := HV.out.2.2.1
          have u2 := HV.out.2.2.2
          have hvv := HV.out.1
          obtain ⟨A9, c9, rfl⟩ := Kd.R_slice hvv
          have hrd := Kd.R_reads' hvv
          have ptk := take_any A9 c9 r.1 sku tw qty _ hrd.2.2 hrd.2.1 HRL.out HQ.out.1
          obtain ⟨e0, he0⟩ : ∃ e0, e0 = r.2 := ⟨_, rfl⟩
          rw [← he0]
          have HE := Aside0.mk he0
          clear hvv hrd he0
          by_cases hz : e0 = 0
          · have q1 : (e0 != 0) = false := by simp [hz]
            have HRS : Aside0 (res = turnedP (takeF qty) r.1 sku tw qty) := ⟨by rw [HRES.out, ← HE.out, if_pos hz]⟩
            rw [← HRS.out] at ptk
            clear hz
            go_wp2_with fail
            go_at_call 20
            refine ptk.mono ?_
            rintro e w5 ⟨v5, rfl, hv5, hb5⟩
            have HV5 := Aside0.mk (And.intro (Kd.R_lower hv5 HV.out.2.1.size) (below_then HV.out.2.1 HV.out.2.1.size hb5))
            clear ptk hv5 hb5
            go_wp2
            go_ret2
            exact ⟨v5, rfl, HV5.out.1, HV5.out.2⟩
          · have q1 : (e0 != 0) = true := by simp [hz]
            have HRS : Aside0 (res = ([], e0)) := ⟨by rw [HRES.out, ← HE.out, if_neg hz]⟩
            clear hz ptk
            go_wp2
            go_ret2
            refine ⟨.slice none 0 0, ?_, ?_, HV.out.2.1⟩
            · rw [HRS.out]; rfl
            · rw [HRS.out]; exact Kd.R_nil _ _ _ _ _
  · rw [if_neg hk0]
    have e1 : (kk != 0) = true := by simp [hk0]
    clear hC hc hl hq hw0 hn hkk hk0 pp
    go_enter Try.func21, Try.ntmps21
    go_wp2_with (go_at_call 39; refine pk.mono ?_; rintro e w1 ⟨rfl, hb⟩; have HB := Aside0.mk (below_then HW.out (by simp) hb); clear hb)
    go_ret2
    exact ⟨_, rfl, Kd.R_nil _ _ _ _ _, HB.out⟩
end Go.Proofs.Ytkhghabenhhhaaa.Stock
