/- The document's Adjust: the walk. No conditions beside those that the contract states. -/
import Derived.Test.YtkhghabenhhhaaaStockRefA
import Derived.StillTailTactics
namespace Go.Proofs.Ytkhghabenhhhaaa.Stock
open Go Go.RowKit Go.Proofs.Ytkhghabenhhhaaa.Pa Go.Proofs.YtkhghabenhhhaaaW.PrintWords Go.Proofs.YtkhghabenhhhaaaW.PrintLast Go.Proofs.YtkhghabenhhhaaaW.PrintMore
set_option linter.unusedVariables false
set_option linter.unusedSimpArgs false

theorem firstP_one (l : List Spot) (a b : Int) : firstP l a b 1 = knownP l a b := by unfold firstP knownP; rfl
theorem knownP_of {l : List Spot} {a b : Int} (h1 : May l) (h2 : pairB a b = true) : knownP l a b = 0 := by unfold knownP; rw [if_pos (mayB_iff.2 h1), if_pos h2]
theorem adjustP_no {l : List Spot} {a b q : Int} (h : knownP l a b ≠ 0) (hq : ¬ 0 ≤ q) : adjustP l a b q = ([], knownP l a b) := by unfold adjustP; rw [if_neg hq, if_neg h]
theorem adjustP_go {l : List Spot} {a b q : Int} (hl : Lim l) (h : knownP l a b = 0) (hq : ¬ 0 ≤ q) (hi : inI q) : adjustP l a b q = if hOf l (ix a b) + q < rOf l (ix a b) then ([], 31) else (putS l { getS l a b with f2 := hOf l (ix a b) + q, f3 := rOf l (ix a b) }, 0) := by
  obtain ⟨h1, h2⟩ := knownP_zero h
  have hs := getS_sound h1 hl a b
  unfold sound at hs
  unfold inI at hi
  unfold adjustP
  rw [if_neg hq, if_pos h, rOf_ix l h2, hOf_ix l h2]
  by_cases hm : q = -9223372036854775808
  · rw [if_pos hm, if_pos (by omega)]
  · rw [if_neg hm]
    unfold turnedP lessF
    rw [if_pos h, if_neg (by omega)]
    by_cases hlt : (getS l a b).f2 + q < (getS l a b).f3
    · have hc : (getS l a b).f2 - (getS l a b).f3 < -q := by omega
      simp [hc, hlt]
    · have hc : ¬ (getS l a b).f2 - (getS l a b).f3 < -q := by omega
      have e : (getS l a b).f2 - -q = (getS l a b).f2 + q := by omega
      simp only [if_neg hc, if_neg hlt, e, if_true]
set_option maxRecDepth 100000 in
set_option maxHeartbeats 16000000 in
theorem radjust_any (A : Option Addr) (c : Nat) (l : List Spot) (sku loc qty : Int) (w : World) (hC : Kd.C k37 w A l.length l) (hc : l.length ≤ c) (hl : Lim l) (hq : inI qty) :
    Calls Try.prog 30 #[.slice A l.length c, .agg #[.int .i64 sku, .int .i64 loc, .int .i64 qty]] w (FreshE w (adjustP l sku loc qty)) := by
  have hL := LineAt.new w sku loc qty
  obtain ⟨n, hn⟩ : ∃ n, n = l.length := ⟨_, rfl⟩
  by_cases hpq : 0 ≤ qty
  · have p := rtake_any A c l sku loc qty _ (Kd.C_below hC hL.bel) hc hl hq
    have hP : adjustP l sku loc qty = turnedP (takeF qty) l sku loc qty := by unfold adjustP; rw [if_pos hpq]
    rw [hP]
    rw [← hn] at p ⊢
    obtain ⟨r, hr⟩ : ∃ r, r = turnedP (takeF qty) l sku loc qty := ⟨_, rfl⟩
    rw [← hr] at p ⊢
    have HW := Aside0.mk hL.bel
    clear hC hc hl hq hL hn hr hP
    go_enter Try.func30, Try.ntmps30
    go_wp2_with fail
    go_at_call 29
    refine p.mono ?_
    rintro e w1 h
    obtain ⟨v, rfl, hv, hb⟩ := h.below HW.out
    have HV := Aside0.mk (And.intro hv hb)
    clear hv hb h p
    go_wp2
    go_ret2
    exact ⟨v, rfl, HV.out.1, HV.out.2⟩
  · have pf := rfirst_any A c l sku loc 1 _ (Kd.C_below hC hL.bel) hc hl.1
    rw [firstP_one] at pf
    have HX := Aside0.mk (And.intro hC (And.intro hc (And.intro hl (And.intro hq hn))))
    obtain ⟨fe, hfe⟩ : ∃ fe, fe = knownP l sku loc := ⟨_, rfl⟩
    rw [← hfe, ← hn] at pf
    rw [← hn]
    have q1 := hq.1
    by_cases h0 : fe = 0
    · have hP : adjustP l sku loc qty = _ := adjustP_go hl (by rw [← hfe]; exact h0) hpq hq
      rw [hP]
      obtain ⟨hm, hp⟩ := knownP_zero (hfe.symm.trans h0)
      subst h0
      have hs := getS_sound hm hl sku loc
      have hv : (getS l sku loc).f2 = hOf l (ix sku loc) := (hOf_ix l hp).symm
      have hv3 : (getS l sku loc).f3 = rOf l (ix sku loc) := (rOf_ix l hp).symm
      obtain ⟨p0, p1, p2, p3⟩ := pairB_iff.1 hp
      obtain ⟨s0, s1, s2⟩ := hs
      rw [hv] at s1 s2
      rw [hv3] at s0 s1
      obtain ⟨res, hres⟩ : ∃ res : List Spot × Int, res = if hOf l (ix sku loc) + qty < rOf l (ix sku loc) then ([], 31) else (putS l { getS l sku loc with f2 := hOf l (ix sku loc) + qty, f3 := rOf l (ix sku loc) }, 0) := ⟨_, rfl⟩
      rw [← hres]
      have HM := Aside0.mk (And.intro hm (And.intro hp hv))
      obtain ⟨hx, hhx⟩ : ∃ hx, hx = hOf l (ix sku loc) := ⟨_, rfl⟩
      obtain ⟨rx, hrx⟩ : ∃ rx, rx = rOf l (ix sku loc) := ⟨_, rfl⟩
      rw [← hhx] at s1 s2 hres
      rw [← hrx] at s0 s1 hres
      have HR := Aside0.mk (And.intro hhx (And.intro hrx hres))
      have hqn : qty < 0 := by omega
      clear hC hc hl hq hn hfe hP hm hp hv hv3 hhx hrx hres hL
      go_enter Try.func30, Try.ntmps30
      go_wp2_with fail
      go_at_call 45
      refine pf.mono ?_
      rintro e w1 ⟨rfl, hb⟩
      have hL := (LineAt.new w sku loc qty).below hb
      have HL := Aside0.mk hL
      obtain ⟨x0, x1, x2⟩ := hL.cells
      clear hb hL pf
      go_wp2_with fail
      go_at_call 46
      have pl := laid_any A c l w1 (Kd.C_below HX.out.1 HL.out.bel) HX.out.2.1 HM.out.1
      rw [← HX.out.2.2.2.2] at pl
      refine pl.mono ?_
      clear pl
      rintro e w2 ⟨rfl, hb⟩
      have hL := HL.out.below hb
      clear x0 x1 x2 hb
      have hz := zero66
      have hs := deck_store hL (hOf l) (rOf l)
      have hD := Deck.make hL (hOf l) (rOf l)
      go_wp2
      obtain ⟨w3, hw3⟩ : ∃ w3, w3 = (w2.alloc (.cells (tc z0 z0) 66)).setRow w2.heap.size (tc (hOf l) (rOf l)) := ⟨_, rfl⟩
      obtain ⟨g, hg⟩ : ∃ g, g = w2.heap.size := ⟨_, rfl⟩
      rw [← hw3, ← hg] at hD ⊢
      clear hw3 hs hz hL hg
      have HD := Aside0.mk hD
      obtain ⟨x0, x1, x2⟩ := hD.line.cells
      obtain ⟨c0, g0⟩ := hD.h HM.out.2.1
      obtain ⟨c1, g1⟩ := hD.r HM.out.2.1
      rw [← HR.out.1] at c0
      rw [← HR.out.2.1] at c1
      clear hD
      have e4 : IntKind.i64.wrap (-hx) = -hx := IntWalk.i64_in _ (by omega)
      by_cases hg1 : qty < -hx
      · have HQ : hx + qty < rx := by omega
        have hd : decide (qty < -hx) = true := decide_eq_true hg1
        go_quiet (fail)
        clear e4
        go_wp2
        go_ret2
        refine ⟨.slice none 0 0, ?_, ?_, pw_below_drewN HD.out.line.bel _⟩
        · rw [HR.out.2.2, if_pos HQ]; rfl
        · rw [HR.out.2.2, if_pos HQ]; exact Kd.R_nil _ _ _ _ _
      · have hd : decide (qty < -hx) = false := decide_eq_false hg1
        have e3 : IntKind.i64.wrap (hx + qty) = hx + qty := IntWalk.i64_in _ (by omega)
        by_cases hlt : hx + qty < rx
        · go_quiet (fail)
          clear e3 e4
          go_wp2
          go_ret2
          refine ⟨.slice none 0 0, ?_, ?_, pw_below_drewN HD.out.line.bel _⟩
          · rw [HR.out.2.2, if_pos hlt]; rfl
          · rw [HR.out.2.2, if_pos hlt]; exact Kd.R_nil _ _ _ _ _
        · go_quiet (fail)
          go_wp2
          go_region
          clear e3 e4 hd
          obtain ⟨w4, hw4⟩ : ∃ w4 : World, w4 = (w3.drewN (nq + 1)).setCell ⟨g, sku.toNat * 4 + loc.toNat, none⟩ (.int .i64 (hx + qty)) := ⟨_, rfl⟩
          have hD4 : Deck w w4 g sku loc qty (upT (hOf l) (ix sku loc) (hx + qty)) (rOf l) := by rw [hw4]; exact (HD.out.drewN _).setH (ix_lt HM.out.2.1) (hx + qty)
          rw [← hw4]
          clear hw4 x0 x1 x2 c0 g0 c1 g1
          obtain ⟨L, hL⟩ : ∃ L, L = putS l { getS l sku loc with f2 := hx + qty, f3 := rx } := ⟨_, rfl⟩
          have hML : May L := by rw [hL]; exact HM.out.1.put (fine_with HM.out.1 HM.out.2.1 (by omega) (by omega))
          have hT : TabAt w4 g (hOf L) (rOf L) := by
            have h3 := hD4.tab
            unfold TabAt at h3 ⊢
            rw [upT_same (rOf l) (ix sku loc) (v := rx) HR.out.2.1, tab_with HM.out.1 HM.out.2.1 (by omega) (by omega), ← hL] at h3
            exact h3
          have HRL : Aside0 (res = (L, 0)) := ⟨by rw [HR.out.2.2, if_neg (show ¬ hx + qty < rx by omega), hL, HR.out.1, HR.out.2.1]⟩
          have hB : Below w.heap.size w w4 := hD4.line.bel
          clear hD4
          have HB4 := Aside0.mk hB
          have HML := Aside0.mk hML
          have pL := list_of hML w4
          clear hB hML hL
          go_wp2
          refine wp_load66 (.tmp 7) rfl rfl hT ?_
          go_wp2_with fail
          go_at_call 48
          refine pL.mono ?_
          rintro e w5 ⟨v, rfl, hv, hb5⟩
          have HV := Aside0.mk (And.intro hv hb5)
          clear hv hb5 hT pL
          go_wp2
          go_ret2
          refine ⟨v, ?_, ?_, HB4.out.trans (HV.out.2.mono HB4.out.size)⟩
          · rw [HRL.out]; rfl
          · rw [HRL.out]; exact Kd.R_lower HV.out.1 HB4.out.size
    · have hP : adjustP l sku loc qty = _ := adjustP_no (by rw [← hfe]; exact h0) hpq
      rw [hP, ← hfe]
      have e1 : (fe != 0) = true := by simp [h0]
      have hqn : qty < 0 := by omega
      clear hC hc hl hq hn hfe h0 hP
      go_enter Try.func30, Try.ntmps30
      go_wp2_with (go_at_call 45; refine pf.mono ?_; rintro e w1 ⟨rfl, hb⟩; have HB := Aside0.mk ((LineAt.new w sku loc qty).below hb); clear hb)
      go_ret2
      exact ⟨_, rfl, Kd.R_nil _ _ _ _ _, HB.out.bel⟩
end Go.Proofs.Ytkhghabenhhhaaa.Stock

namespace Go.Proofs.Ytkhghabenhhhaaa.Stock
open Go Go.RowKit Go.Proofs.Ytkhghabenhhhaaa.Pa Go.Proofs.YtkhghabenhhhaaaW.PrintWords Go.Proofs.YtkhghabenhhhaaaW.PrintLast Go.Proofs.YtkhghabenhhhaaaW.PrintMore
set_option linter.unusedVariables false
set_option linter.unusedSimpArgs false

theorem moveP_go {l : List Spot} {a b q t : Int} (h1 : May l) (h2 : pairB a b = true) (h3 : pairB a t = true) (hq : 0 < q) (ht : t ≠ b) : moveP l a b q t = if hOf l (ix a b) - rOf l (ix a b) < q then ([], 31) else if (addP (hOf l (ix a t)) q).2 = 0 then (putS (putS l { getS l a b with f2 := hOf l (ix a b) - q, f3 := rOf l (ix a b) }) { getS l a t with f2 := (addP (hOf l (ix a t)) q).1, f3 := rOf l (ix a t) }, 0) else ([], (addP (hOf l (ix a t)) q).2) := by
  have hk := knownP_of h1 h2
  have hs := getS_fine h1 a b
  unfold moveP
  rw [if_pos hk, if_pos h3, if_neg (by omega), hOf_ix l h2, rOf_ix l h2, hOf_ix l h3, rOf_ix l h3]
  by_cases hlt : (getS l a b).f2 - (getS l a b).f3 < q
  · have e : turnedP (lessF q) l a b q = ([], 31) := by unfold turnedP lessF; rw [if_pos hk, if_neg (by omega)]; simp [hlt]
    rw [e, if_pos hlt]; rfl
  · have e : turnedP (lessF q) l a b q = (putS l { getS l a b with f2 := (getS l a b).f2 - q }, 0) := by unfold turnedP lessF; rw [if_pos hk, if_neg (by omega)]; simp [hlt]
    rw [e, if_neg hlt, if_pos rfl]
    have hf : fineS { getS l a b with f2 := (getS l a b).f2 - q } := fine_with h1 h2 hs.1 (by omega)
    have hm := h1.put hf
    have hg : getS (putS l { getS l a b with f2 := (getS l a b).f2 - q }) a t = getS l a t := by
      rw [get_put h1 hf, if_neg]
      rintro ⟨_, h5⟩
      exact ht (h5.trans (getS_key l a b).2)
    show turnedP (takeF q) (putS l { getS l a b with f2 := (getS l a b).f2 - q }) a t q = _
    unfold turnedP takeF
    rw [if_pos (knownP_of hm h3), if_neg (by omega), hg]
def moveE (l : List Spot) (a b q t : Int) : Int := if mayB l = true then (if pairB a b = true ∧ pairB a t = true then (if q ≤ 0 ∨ t = b then 1 else 0) else 3) else 1
theorem moveE_zero {l : List Spot} {a b q t : Int} (h : moveE l a b q t = 0) : May l ∧ pairB a b = true ∧ pairB a t = true ∧ 0 < q ∧ t ≠ b := by
  unfold moveE at h
  split at h
  · split at h
    · split at h
      · cases h
      · rename_i h1 h2 h3
        exact ⟨mayB_iff.1 h1, h2.1, h2.2, by omega, by omega⟩
    · cases h
  · cases h
theorem moveP_no {l : List Spot} {a b q t : Int} (h : moveE l a b q t ≠ 0) : moveP l a b q t = ([], moveE l a b q t) := by
  by_cases h1 : mayB l = true
  · by_cases h2 : pairB a b = true
    · have hk : knownP l a b = 0 := knownP_of (mayB_iff.1 h1) h2
      by_cases h3 : pairB a t = true
      · have he : moveE l a b q t = if q ≤ 0 ∨ t = b then 1 else 0 := by unfold moveE; rw [if_pos h1, if_pos ⟨h2, h3⟩]
        by_cases h4 : q ≤ 0 ∨ t = b
        · rw [he, if_pos h4]
          unfold moveP
          rw [if_pos hk, if_pos h3, if_pos h4]
        · rw [he, if_neg h4] at h
          exact absurd rfl h
      · have he : moveE l a b q t = 3 := by unfold moveE; rw [if_pos h1, if_neg (fun x => h3 x.2)]
        rw [he]
        unfold moveP
        rw [if_pos hk, if_neg h3]
    · have he : moveE l a b q t = 3 := by unfold moveE; rw [if_pos h1, if_neg (fun x => h2 x.1)]
      have hk : knownP l a b = 3 := by unfold knownP; rw [if_pos h1, if_neg h2]
      unfold moveP
      rw [he, hk, if_neg (by decide)]
  · have he : moveE l a b q t = 1 := by unfold moveE; rw [if_neg h1]
    have hk : knownP l a b = 1 := by unfold knownP; rw [if_neg h1]
    unfold moveP
    rw [he, hk, if_neg (by decide)]
end Go.Proofs.Ytkhghabenhhhaaa.Stock

namespace Go.Proofs.Ytkhghabenhhhaaa.Stock
open Go Go.RowKit Go.Proofs.Ytkhghabenhhhaaa.Pa Go.Proofs.YtkhghabenhhhaaaW.PrintWords Go.Proofs.YtkhghabenhhhaaaW.PrintLast Go.Proofs.YtkhghabenhhhaaaW.PrintMore
set_option linter.unusedVariables false
set_option linter.unusedSimpArgs false

set_option maxRecDepth 100000 in
set_option maxHeartbeats 16000000 in
theorem rmove_bad (A : Option Addr) (c : Nat) (l : List Spot) (sku loc qty tw : Int) (w : World) (hC : Kd.C k37 w A l.length l) (hc : l.length ≤ c) (hl : Lim l) (h0 : moveE l sku loc qty tw ≠ 0) :
    Calls Try.prog 31 #[.slice A l.length c, .agg #[.int .i64 sku, .int .i64 loc, .int .i64 qty], .int .i64 tw] w (FreshE w (moveP l sku loc qty tw)) := by
  have hL := LineAt.new w sku loc qty
  have pm := rmay_any A c l _ (Kd.C_below hC hL.bel) hc hl.1
  obtain ⟨n, hn⟩ : ∃ n, n = l.length := ⟨_, rfl⟩
  rw [moveP_no h0]
  obtain ⟨E, hE⟩ : ∃ E, E = moveE l sku loc qty tw := ⟨_, rfl⟩
  have hE0 : E ≠ 0 := by rw [hE]; exact h0
  rw [← hE, ← hn]
  rw [← hn] at pm
  unfold moveE at hE
  have pp := fun W => rpair_any sku loc W
  have pt := fun W => rpair_any sku tw W
  obtain ⟨mb, hmb⟩ : ∃ mb, mb = mayB l := ⟨_, rfl⟩
  obtain ⟨b1, hb1⟩ : ∃ b1, b1 = pairB sku loc := ⟨_, rfl⟩
  obtain ⟨b2, hb2⟩ : ∃ b2, b2 = pairB sku tw := ⟨_, rfl⟩
  rw [← hmb] at pm hE
  rw [← hb1] at pp hE
  rw [← hb2] at pt hE
  have PP := Aside0.mk pp
  have PT := Aside0.mk pt
  clear hC hc hl hn h0 hmb hb1 hb2 pp pt hL
  cases mb with
  | false =>
    have HE : Aside0 (E = 1) := ⟨hE⟩
    clear hE hE0
    go_enter Try.func31, Try.ntmps31
    go_wp2_with (go_at_call 15; refine pm.mono ?_; rintro e w1 ⟨rfl, hb⟩; have HB := Aside0.mk ((LineAt.new w sku loc qty).below hb).bel; clear hb)
    go_ret2
    exact ⟨.slice none 0 0, by rw [HE.out]; rfl, Kd.R_nil _ _ _ _ _, HB.out⟩
  | true =>
    rw [if_pos rfl] at hE
    cases b1 with
    | false =>
      have HE : Aside0 (E = 3) := ⟨by rw [hE]; rfl⟩
      clear hE hE0
      go_enter Try.func31, Try.ntmps31
      go_wp2_with (first | (go_at_call 15; refine pm.mono ?_; rintro e w1 ⟨rfl, hb⟩; have hL := (LineAt.new w sku loc qty).below hb; obtain ⟨x0, x1, x2⟩ := hL.cells; have HB := Aside0.mk hL.bel; clear hb hL) | (go_at_call 34; refine (PP.out _).mono ?_; rintro e w2 ⟨rfl, ⟨nd, rfl⟩⟩))
      go_ret2
      exact ⟨.slice none 0 0, by rw [HE.out]; rfl, Kd.R_nil _ _ _ _ _, pw_below_drewN HB.out _⟩
    | true =>
      cases b2 with
      | false =>
        have HE : Aside0 (E = 3) := ⟨by rw [hE]; rfl⟩
        clear hE hE0
        go_enter Try.func31, Try.ntmps31
        go_wp2_with (first | (go_at_call 15; refine pm.mono ?_; rintro e w1 ⟨rfl, hb⟩; have hL := (LineAt.new w sku loc qty).below hb; obtain ⟨x0, x1, x2⟩ := hL.cells; have HB := Aside0.mk hL.bel; clear hb hL) | (go_at_call 34; (first | (with_reducible refine (PP.out _).mono ?_) | (with_reducible refine (PT.out _).mono ?_)); rintro e w2 ⟨rfl, ⟨nd, rfl⟩⟩))
        go_ret2
        exact ⟨.slice none 0 0, by rw [HE.out]; rfl, Kd.R_nil _ _ _ _ _, pw_below_drewN HB.out _⟩
      | true =>
        rw [if_pos ⟨rfl, rfl⟩] at hE
        have hq : qty ≤ 0 ∨ tw = loc := by
          by_cases h : qty ≤ 0 ∨ tw = loc
          · exact h
          · rw [if_neg h] at hE; exact absurd hE hE0
        have HE : Aside0 (E = 1) := ⟨by rw [hE, if_pos hq]⟩
        clear hE hE0
        by_cases h1 : qty ≤ 0
        · clear hq
          go_enter Try.func31, Try.ntmps31
          go_wp2_with (first | (go_at_call 15; refine pm.mono ?_; rintro e w1 ⟨rfl, hb⟩; have hL := (LineAt.new w sku loc qty).below hb; obtain ⟨x0, x1, x2⟩ := hL.cells; have HB := Aside0.mk hL.bel; clear hb hL) | (go_at_call 34; (first | (with_reducible refine (PP.out _).mono ?_) | (with_reducible refine (PT.out _).mono ?_)); rintro e w2 ⟨rfl, ⟨nd, rfl⟩⟩))
          go_ret2
          exact ⟨.slice none 0 0, by rw [HE.out]; rfl, Kd.R_nil _ _ _ _ _, pw_below_drewN HB.out _⟩
        · obtain rfl := hq.resolve_left h1
          clear hq
          go_enter Try.func31, Try.ntmps31
          go_wp2_with (first | (go_at_call 15; refine pm.mono ?_; rintro e w1 ⟨rfl, hb⟩; have hL := (LineAt.new w sku tw qty).below hb; obtain ⟨x0, x1, x2⟩ := hL.cells; have HB := Aside0.mk hL.bel; clear hb hL) | (go_at_call 34; refine (PT.out _).mono ?_; rintro e w2 ⟨rfl, ⟨nd, rfl⟩⟩))
          go_ret2
          exact ⟨.slice none 0 0, by rw [HE.out]; rfl, Kd.R_nil _ _ _ _ _, pw_below_drewN HB.out _⟩
end Go.Proofs.Ytkhghabenhhhaaa.Stock

namespace Go.Proofs.Ytkhghabenhhhaaa.Stock
open Go Go.RowKit Go.Proofs.Ytkhghabenhhhaaa.Pa Go.Proofs.YtkhghabenhhhaaaW.PrintWords Go.Proofs.YtkhghabenhhhaaaW.PrintLast Go.Proofs.YtkhghabenhhhaaaW.PrintMore
set_option linter.unusedVariables false
set_option linter.unusedSimpArgs false

set_option maxRecDepth 100000 in
set_option maxHeartbeats 32000000 in
theorem rmove_good (A : Option Addr) (c : Nat) (l : List Spot) (sku loc qty tw : Int) (w : World) (hC : Kd.C k37 w A l.length l) (hc : l.length ≤ c) (hl : Lim l) (hq : inI qty) (h0 : moveE l sku loc qty tw = 0) :
    Calls Try.prog 31 #[.slice A l.length c, .agg #[.int .i64 sku, .int .i64 loc, .int .i64 qty], .int .i64 tw] w (FreshE w (moveP l sku loc qty tw)) := by
  have hL := LineAt.new w sku loc qty
  have pm := rmay_any A c l _ (Kd.C_below hC hL.bel) hc hl.1
  obtain ⟨n, hn⟩ : ∃ n, n = l.length := ⟨_, rfl⟩
  have HX := Aside0.mk (And.intro hC (And.intro hc (And.intro hl (And.intro hq hn))))
  obtain ⟨hm, hp, hpt, hpos, hne⟩ := moveE_zero h0
  rw [moveP_go hm hp hpt hpos hne]
  have pp := fun W => rpair_any sku loc W
  have pt := fun W => rpair_any sku tw W
  rw [hp] at pp
  rw [hpt] at pt
  rw [mayB_iff.2 hm, ← hn] at pm
  rw [← hn]
  have PP := Aside0.mk pp
  have PT := Aside0.mk pt
  have e5 : (tw == loc) = false := by simp [hne]
  have hs := getS_sound hm hl sku loc
  have ht := getS_sound hm hl sku tw
  obtain ⟨p0, p1, p2, p3⟩ := pairB_iff.1 hp
  obtain ⟨_, _, p4, p5⟩ := pairB_iff.1 hpt
  obtain ⟨s0, s1, s2⟩ := hs
  obtain ⟨t0, t1, t2⟩ := ht
  rw [(hOf_ix l hp).symm] at s1 s2
  rw [(rOf_ix l hp).symm] at s0 s1
  rw [(hOf_ix l hpt).symm] at t1 t2
  rw [(rOf_ix l hpt).symm] at t0 t1
  have q2 := hq.2
  have pa := fun (m : Nat) (W : World) => radd_any (hOf l (ix sku tw)) qty (W.drewN m) t2 hq.2
  obtain ⟨hy, hhy⟩ : ∃ hy, hy = hOf l (ix sku tw) := ⟨_, rfl⟩
  obtain ⟨ry, hry⟩ : ∃ ry, ry = rOf l (ix sku tw) := ⟨_, rfl⟩
  obtain ⟨hx, hhx⟩ : ∃ hx, hx = hOf l (ix sku loc) := ⟨_, rfl⟩
  obtain ⟨rx, hrx⟩ : ∃ rx, rx = rOf l (ix sku loc) := ⟨_, rfl⟩
  rw [← hhy, ← hhx, ← hrx, ← hry]
  rw [← hhy] at t1 t2 pa
  rw [← hry] at t0 t1
  rw [← hhx] at s1 s2
  rw [← hrx] at s0 s1
  obtain ⟨r, hr⟩ : ∃ r, r = addP hy qty := ⟨_, rfl⟩
  rw [← hr] at pa ⊢
  have PA := Aside0.mk pa
  obtain ⟨res, hres⟩ : ∃ res : List Spot × Int, res = if hx - rx < qty then ([], 31) else if r.2 = 0 then (putS (putS l { getS l sku loc with f2 := hx - qty, f3 := rx }) { getS l sku tw with f2 := r.1, f3 := ry }, 0) else ([], r.2) := ⟨_, rfl⟩
  rw [← hres]
  have HR := Aside0.mk (And.intro hr (And.intro hres (And.intro hhx (And.intro hrx (And.intro hhy hry)))))
  have HM := Aside0.mk (And.intro hm (And.intro hp hpt))
  have HNE := Aside0.mk hne
  clear hC hc hl hq hn h0 hm hp hpt pp pt pa hhx hhy hrx hry hr hres hL hne
  go_enter Try.func31, Try.ntmps31
  go_wp2_with (first | (go_at_call 15; refine pm.mono ?_; rintro e w1 ⟨rfl, hb⟩; have hL := (LineAt.new w sku loc qty).below hb; obtain ⟨x0, x1, x2⟩ := hL.cells; have HL0 := Aside0.mk hL; clear hb hL) | (go_at_call 34; (first | (with_reducible refine (PP.out _).mono ?_) | (with_reducible refine (PT.out _).mono ?_)); rintro e w2 ⟨rfl, ⟨nd, rfl⟩⟩))
  go_at_call 46
  have LD := Aside0.mk (fun k => (⟨HL0.out.blk, pw_below_drewN HL0.out.bel k⟩ : LineAt w (w1.drewN k) sku loc qty))
  refine (laid_anyN A c l n _ HX.out.2.2.2.2 (Kd.C_below HX.out.1 (pw_below_drewN HL0.out.bel _)) HX.out.2.1 HM.out.1).mono ?_
  rintro e w2 ⟨rfl, hb⟩
  have hL : LineAt w w2 sku loc qty := (LD.out _).below hb
  clear x0 x1 x2 hb LD
  have hz := zero66
  have hs := deck_store hL (hOf l) (rOf l)
  have hD := Deck.make hL (hOf l) (rOf l)
  go_wp2
  obtain ⟨w3, hw3⟩ : ∃ w3, w3 = (w2.alloc (.cells (tc z0 z0) 66)).setRow w2.heap.size (tc (hOf l) (rOf l)) := ⟨_, rfl⟩
  obtain ⟨g, hg⟩ : ∃ g, g = w2.heap.size := ⟨_, rfl⟩
  rw [← hw3, ← hg] at hD ⊢
  clear hw3 hs hz hL hg HL0 PP PT
  have HD := Aside0.mk hD
  obtain ⟨x0, x1, x2⟩ := hD.line.cells
  obtain ⟨c0, g0⟩ := hD.h HM.out.2.1
  obtain ⟨c1, g1⟩ := hD.r HM.out.2.1
  obtain ⟨c2, g2⟩ := hD.h HM.out.2.2
  rw [← HR.out.2.2.1] at c0
  rw [← HR.out.2.2.2.1] at c1
  rw [← HR.out.2.2.2.2.1] at c2
  clear hD
  have e3 : IntKind.i64.wrap (hx - rx) = hx - rx := IntWalk.i64_in _ (by omega)
  go_quiet (fail)
  clear e3
  by_cases hlt : hx - rx < qty
  · go_wp2
    go_ret2
    refine ⟨.slice none 0 0, ?_, ?_, pw_below_drewN HD.out.line.bel _⟩
    · rw [HR.out.2.1, if_pos hlt]; rfl
    · rw [HR.out.2.1, if_pos hlt]; exact Kd.R_nil _ _ _ _ _
  · go_wp2
    obtain ⟨w4, hw4⟩ : ∃ w4 : World, w4 = w3.drewN nq := ⟨_, rfl⟩
    have hD4 : Deck w w4 g sku loc qty (hOf l) (rOf l) := by rw [hw4]; exact HD.out.drewN _
    rw [← hw4]
    clear hw4 x0 x1 x2 c0 g0 c1 g1 c2 g2
    have HD4 := Aside0.mk hD4
    obtain ⟨x0, x1, x2⟩ := hD4.line.cells
    obtain ⟨c0, g0⟩ := hD4.h HM.out.2.1
    obtain ⟨c2, g2⟩ := hD4.h HM.out.2.2
    rw [← HR.out.2.2.1] at c0
    rw [← HR.out.2.2.2.2.1] at c2
    clear hD4
    go_quiet ((go_at_call 47; refine (PA.out _ _).mono ?_; rintro e w' ⟨rfl, ⟨nd, rfl⟩⟩; exact ⟨rfl, _, World.drewN_drewN _ _ _⟩))
    by_cases hr0 : r.2 = 0
    · have e1 : (r.2 != 0) = false := by simp [hr0]
      have e3 : IntKind.i64.wrap (hx - qty) = hx - qty := IntWalk.i64_in _ (by omega)
      have hno : ¬ sku.toNat * 4 + loc.toNat = sku.toNat * 4 + tw.toNat := by have := HNE.out; omega
      have hno2 : ¬ sku.toNat * 4 + tw.toNat = sku.toNat * 4 + loc.toNat := by have := HNE.out; omega
      go_wp2
      obtain ⟨w5, hw5⟩ : ∃ w5 : World, w5 = w4.drewN nq := ⟨_, rfl⟩
      have hD5 : Deck w w5 g sku loc qty (hOf l) (rOf l) := by rw [hw5]; exact HD4.out.drewN _
      rw [← hw5]
      clear hw5 x0 x1 x2 c0 g0 c2 g2
      have HD5 := Aside0.mk hD5
      obtain ⟨x0, x1, x2⟩ := hD5.line.cells
      obtain ⟨c0, g0⟩ := hD5.h HM.out.2.1
      obtain ⟨c2, g2⟩ := hD5.h HM.out.2.2
      rw [← HR.out.2.2.1] at c0
      rw [← HR.out.2.2.2.2.1] at c2
      clear hD5
      have hgn : ¬ w.heap.size = g := Nat.ne_of_lt HD5.out.gt
      have hgn2 : ¬ g = w.heap.size := fun e => hgn e.symm
      go_still_tail 18, (by kernel_rfl)
      go_wp2
      clear e3
      obtain ⟨w6, hw6⟩ : ∃ w6 : World, w6 = ((w5.setCell ⟨g, sku.toNat * 4 + loc.toNat, none⟩ (.int .i64 (hx - qty))).setCell ⟨g, sku.toNat * 4 + tw.toNat, none⟩ (.int .i64 r.1)).drew := ⟨_, rfl⟩
      have hD6 : Deck w w6 g sku loc qty (upT (upT (hOf l) (ix sku loc) (hx - qty)) (ix sku tw) r.1) (rOf l) := by
        rw [hw6]
        exact ((HD5.out.setH (ix_lt HM.out.2.1) (hx - qty)).setH (ix_lt HM.out.2.2) r.1).drew
      rw [← hw6]
      clear hw6 x0 x1 x2 c0 g0 c2 g2 hno hno2 hgn hgn2
      have hr1 : hy ≤ r.1 := by
        rw [HR.out.1] at hr0 ⊢
        unfold addP at hr0 ⊢
        split at hr0
        · cases hr0
        · split at hr0
          · cases hr0
          · rename_i h4 h5
            rw [if_neg h4, if_neg h5]
            show _ ≤ _ + _
            omega
      obtain ⟨l1, hl1⟩ : ∃ l1, l1 = putS l { getS l sku loc with f2 := hx - qty, f3 := rx } := ⟨_, rfl⟩
      have hf1 : fineS { getS l sku loc with f2 := hx - qty, f3 := rx } := fine_with HM.out.1 HM.out.2.1 (by omega) (by omega)
      have hm1 : May l1 := by rw [hl1]; exact HM.out.1.put hf1
      have hg1 : getS l1 sku tw = getS l sku tw := by
        rw [hl1, get_put HM.out.1 hf1, if_neg]
        rintro ⟨_, h5⟩
        exact HNE.out (h5.trans (getS_key l sku loc).2)
      obtain ⟨L, hL⟩ : ∃ L, L = putS l1 { getS l1 sku tw with f2 := r.1, f3 := ry } := ⟨_, rfl⟩
      have hML : May L := by rw [hL]; exact hm1.put (fine_with hm1 HM.out.2.2 (by omega) (by omega))
      have hT : TabAt w6 g (hOf L) (rOf L) := by
        have h3 := hD6.tab
        have k1 := tab_with HM.out.1 HM.out.2.1 (x := hx - qty) (y := rx) (by omega) (by omega)
        rw [← upT_same (rOf l) (ix sku loc) (v := rx) HR.out.2.2.2.1, ← hl1] at k1
        have k2 := tab_with hm1 HM.out.2.2 (x := r.1) (y := ry) (by omega) (by omega)
        have k3 : ry = rOf l1 (ix sku tw) := by rw [rOf_ix l1 HM.out.2.2, hg1, HR.out.2.2.2.2.2, rOf_ix l HM.out.2.2]
        rw [← upT_same (rOf l1) (ix sku tw) k3, ← hL] at k2
        unfold TabAt at h3 ⊢
        rw [h3, ← k2]
        have k4 := fun o (ho : o < 64) => congrArg (fun (z : Array Value) => z[o]?) k1
        have k5 := fun o (ho : o < 64) => congrArg (fun (z : Array Value) => z[64 + o]?) k1
        congr 2
        refine tc_congr (fun o ho => ?_) (fun o ho => ?_)
        · have := k4 o ho
          simp only [tc_h _ _ ho, Option.some.injEq, Value.int.injEq, true_and] at this
          unfold upT
          unfold upT at this
          rw [this]
        · have := k5 o ho
          simp only [tc_r _ _ ho, Option.some.injEq, Value.int.injEq, true_and] at this
          exact this
      have HRL : Aside0 (res = (L, 0)) := ⟨by rw [HR.out.2.1, if_neg (show ¬ hx - rx < qty by omega), if_pos hr0, hL, hg1, hl1]⟩
      have hB : Below w.heap.size w w6 := hD6.line.bel
      clear hD6 hr0 e1 hl1 hg1
      have HB4 := Aside0.mk hB
      have HML := Aside0.mk hML
      have pL := list_of hML w6
      clear hB hML hL
      go_wp2
      refine wp_load66 (.tmp 9) rfl rfl hT ?_
      go_wp2_with fail
      go_at_call 48
      refine pL.mono ?_
      rintro e w7 ⟨v, rfl, hv, hb5⟩
      have HV := Aside0.mk (And.intro hv hb5)
      clear hv hb5 hT pL
      go_wp2
      go_ret2
      refine ⟨v, ?_, ?_, HB4.out.trans (HV.out.2.mono HB4.out.size)⟩
      · rw [HRL.out]; rfl
      · rw [HRL.out]; exact Kd.R_lower HV.out.1 HB4.out.size
    · have e1 : (r.2 != 0) = true := by simp [hr0]
      go_wp2
      go_ret2
      refine ⟨.slice none 0 0, ?_, ?_, pw_below_drewN HD4.out.line.bel _⟩
      · rw [HR.out.2.1, if_neg (show ¬ hx - rx < qty by omega), if_neg hr0]; rfl
      · rw [HR.out.2.1, if_neg (show ¬ hx - rx < qty by omega), if_neg hr0]; exact Kd.R_nil _ _ _ _ _
end Go.Proofs.Ytkhghabenhhhaaa.Stock

namespace Go.Proofs.Ytkhghabenhhhaaa.Stock
open Go Go.RowKit Go.Proofs.Ytkhghabenhhhaaa.Pa Go.Proofs.YtkhghabenhhhaaaW.PrintWords Go.Proofs.YtkhghabenhhhaaaW.PrintLast Go.Proofs.YtkhghabenhhhaaaW.PrintMore
set_option linter.unusedVariables false
set_option linter.unusedSimpArgs false

/-- The step of one line that may be held. -/
theorem hold_step {l : List Spot} {x : Line} (hm : May l) (hp : pairB x.f0 x.f1 = true) (hq : 0 < x.f2) (r : List Line) :
    holdL l (x :: r) = if hOf l (ix x.f0 x.f1) - rOf l (ix x.f0 x.f1) < x.f2 then ([], 31) else holdL (putS l { getS l x.f0 x.f1 with f2 := hOf l (ix x.f0 x.f1), f3 := rOf l (ix x.f0 x.f1) + x.f2 }) r := by
  rw [holdL, hOf_ix l hp, rOf_ix l hp]
  by_cases hlt : (getS l x.f0 x.f1).f2 - (getS l x.f0 x.f1).f3 < x.f2
  · have e : turnedP (holdF x.f2) l x.f0 x.f1 x.f2 = ([], 31) := by unfold turnedP holdF; rw [if_pos (knownP_of hm hp), if_neg (by omega)]; simp [hlt]
    rw [e, if_pos hlt, if_neg (by decide)]
  · have e : turnedP (holdF x.f2) l x.f0 x.f1 x.f2 = (putS l { getS l x.f0 x.f1 with f3 := (getS l x.f0 x.f1).f3 + x.f2 }, 0) := by unfold turnedP holdF; rw [if_pos (knownP_of hm hp), if_neg (by omega)]; simp [hlt]
    rw [e, if_neg hlt, if_pos rfl]
/-- A line in a block b, beside a table in a block g. -/
structure Desk (W : World) (b g : Nat) (x : Line) (H R : Nat → Int) : Prop where
  blk : W.heap[b]? = some (.cells #[.int .i64 x.f0, .int .i64 x.f1, .int .i64 x.f2] 32 (0, 0))
  tab : TabAt W g H R
  ne : b ≠ g
theorem Desk.cells {W : World} {b g : Nat} {x : Line} {H R : Nat → Int} (h : Desk W b g x H R) : W.cell? ⟨b, 0, none⟩ = some (.int .i64 x.f0) ∧ W.cell? ⟨b, 1, none⟩ = some (.int .i64 x.f1) ∧ W.cell? ⟨b, 2, none⟩ = some (.int .i64 x.f2) :=
  ⟨by rw [cell_of_row _ _ _ _ _ _ h.blk]; rfl, by rw [cell_of_row _ _ _ _ _ _ h.blk]; rfl, by rw [cell_of_row _ _ _ _ _ _ h.blk]; rfl⟩
theorem Desk.h {W : World} {b g : Nat} {x : Line} {H R : Nat → Int} (h : Desk W b g x H R) (hp : pairB x.f0 x.f1 = true) : W.cell? ⟨g, x.f0.toNat * 4 + x.f1.toNat, none⟩ = some (.int .i64 (H (ix x.f0 x.f1))) := h.tab.cell (tc_h _ _ (ix_lt hp))
theorem Desk.r {W : World} {b g : Nat} {x : Line} {H R : Nat → Int} (h : Desk W b g x H R) (hp : pairB x.f0 x.f1 = true) : W.cell? ⟨g, 64 + x.f0.toNat * 4 + x.f1.toNat, none⟩ = some (.int .i64 (R (ix x.f0 x.f1))) ∧ W.frozen? ⟨g, 64 + x.f0.toNat * 4 + x.f1.toNat, none⟩ = false := by
  refine ⟨?_, h.tab.frozen _⟩
  have := h.tab.cell (tc_r H R (ix_lt hp))
  unfold ix at this ⊢
  rw [← Nat.add_assoc] at this
  exact this
theorem noPair_all {m : List Line} (h : ∀ j : Nat, j < m.length → noPair (rd_T32 m j) = false) : m.any noPair = false := List.any_eq_false.2 (fun x hx => by
  obtain ⟨j, hj, rfl⟩ := List.getElem_of_mem hx
  have h1 := h j hj
  have h2 : rd_T32 m (j : Int) = m[j] := by simp [rd_T32, hj]
  rw [h2] at h1
  rw [h1]; simp)
theorem takeq_any {m : List Line} {k : Nat} (h : k < m.length) : (m.take (k + 1)).any noQty = ((m.take k).any noQty || noQty (rd_T32 m k)) := by
  have h2 : rd_T32 m (k : Int) = m[k] := by simp [rd_T32, h]
  rw [List.take_succ_eq_append_getElem h, List.any_append, h2]
  simp
end Go.Proofs.Ytkhghabenhhhaaa.Stock

namespace Go.Proofs.Ytkhghabenhhhaaa.Stock
open Go Go.RowKit Go.Proofs.Ytkhghabenhhhaaa.Pa Go.Proofs.YtkhghabenhhhaaaW.PrintWords Go.Proofs.YtkhghabenhhhaaaW.PrintLast Go.Proofs.YtkhghabenhhhaaaW.PrintMore
set_option linter.unusedVariables false
set_option linter.unusedSimpArgs false

set_option maxRecDepth 100000 in
set_option maxHeartbeats 32000000 in
theorem rhold_may (A : Option Addr) (c : Nat) (l : List Spot) (A1 : Option Addr) (c1 : Nat) (m : List Line) (w : World) (hC : Kd.C k37 w A l.length l) (hc : l.length ≤ c) (hC1 : Kd.C k32 w A1 m.length m) (hc1 : m.length ≤ c1) (hl : Lim l) (hm : LimL m) (hmb : mayB l = false) :
    Calls Try.prog 33 #[.slice A l.length c, .slice A1 m.length c1] w (FreshE w (holdP l m)) := by
  have pm := rmay_any A c l w hC hc hl.1
  have hmax := Kd.C_max hC1
  have HX := Aside0.mk (And.intro hC (And.intro hc (And.intro hC1 (And.intro hc1 (And.intro hl hm)))))
  obtain ⟨n, hn⟩ : ∃ n, n = l.length := ⟨_, rfl⟩
  obtain ⟨m1, hm1⟩ : ∃ m1, m1 = m.length := ⟨_, rfl⟩
  have HN := Aside0.mk (And.intro hn hm1)
  obtain ⟨res, hres⟩ : ∃ res, res = holdP l m := ⟨_, rfl⟩
  obtain ⟨mb, hmb0⟩ : ∃ mb, mb = mayB l := ⟨_, rfl⟩
  have HMB := Aside0.mk (hmb0.trans hmb)
  rw [← hmb0] at pm
  unfold holdP at hres
  rw [← hmb0] at hres
  have hgoal : FreshE w (holdP l m) = FreshE w res := by unfold holdP; rw [hres, hmb0]
  rw [hgoal]
  have HRES := Aside0.mk hres
  rw [← hn] at pm ⊢
  rw [← hm1] at hmax ⊢
  clear hC hc hC1 hc1 hl hm hn hm1 hres hmb0 hmb hgoal
  obtain rfl := HMB.out
  have HR : Aside0 (res = ([], 1)) := ⟨by rw [HRES.out, if_neg (by simp)]⟩
  go_enter Try.func33, Try.ntmps33
  go_wp2_with (go_at_call 15; refine pm.mono ?_; rintro e w1 ⟨rfl, hb⟩; have HB := Aside0.mk hb; clear hb)
  go_ret2
  refine ⟨.slice none 0 0, ?_, ?_, HB.out⟩
  · rw [HR.out]; rfl
  · rw [HR.out]; exact Kd.R_nil _ _ _ _ _
set_option maxRecDepth 100000 in
set_option maxHeartbeats 32000000 in
theorem rhold_odd (A : Option Addr) (c : Nat) (l : List Spot) (A1 : Option Addr) (c1 : Nat) (m : List Line) (w : World) (hC : Kd.C k37 w A l.length l) (hc : l.length ≤ c) (hC1 : Kd.C k32 w A1 m.length m) (hc1 : m.length ≤ c1) (hl : Lim l) (hm : LimL m) (hmay : mayB l = true) (hodd : m.length = 0 ∨ 4 < m.length) :
    Calls Try.prog 33 #[.slice A l.length c, .slice A1 m.length c1] w (FreshE w (holdP l m)) := by
  have pm := rmay_any A c l w hC hc hl.1
  have hmax := Kd.C_max hC1
  have HX := Aside0.mk (And.intro hC (And.intro hc (And.intro hC1 (And.intro hc1 (And.intro hl hm)))))
  obtain ⟨n, hn⟩ : ∃ n, n = l.length := ⟨_, rfl⟩
  obtain ⟨m1, hm1⟩ : ∃ m1, m1 = m.length := ⟨_, rfl⟩
  have HN := Aside0.mk (And.intro hn hm1)
  obtain ⟨res, hres⟩ : ∃ res, res = holdP l m := ⟨_, rfl⟩
  rw [hmay] at pm
  unfold holdP at hres
  rw [hmay] at hres
  have hgoal : FreshE w (holdP l m) = FreshE w res := by unfold holdP; rw [hres, hmay]
  rw [hgoal]
  have HRES := Aside0.mk hres
  rw [← hn] at pm ⊢
  rw [← hm1] at hmax ⊢ hodd
  have HM := Aside0.mk (mayB_iff.1 hmay)
  clear hC hc hC1 hc1 hl hm hn hm1 hres hmay hgoal
  rcases hodd with hodd | hodd
  · have e0 : ((m1 : Int) == 0) = true := beq_iff_eq.2 (by omega)
    skip
    go_enter Try.func33, Try.ntmps33
    go_wp2_with (go_at_call 15; refine pm.mono ?_; rintro e w1 ⟨rfl, hb⟩; have HB := Aside0.mk hb; clear hb pm)
    clear e0
    go_loopw [7, 8] (fun ov iv wr => ∃ k : Nat, k ≤ m1 ∧ iv = .int .i64 k ∧ ov = .bool true ∧ Aside0 (∀ j : Nat, j < k → noPair (rd_T32 m j) = false) ∧ Aside0 (Below w.heap.size w wr)) (fun _ iv _ => m1 - (intOf iv).toNat)
    case atStart => exact ⟨0, by omega, rfl, rfl, ⟨fun j hj => absurd hj (by omega)⟩, HB⟩
    case round =>
      clear HB
      obtain ⟨k, hk, rfl, rfl, HP, HB⟩ := hrel
      by_cases hlt : k < m1
      · exfalso; omega
      · have hkm : k = m1 := by omega
        subst k
        have hnp : m.any noPair = false := noPair_all (fun j hj => HP.out j (by rw [HN.out.2]; exact hj))
        have HRES2 : Aside0 (res = if m.length = 0 ∨ 4 < m.length ∨ m.any noQty = true then ([], 1) else holdL l m) := ⟨by rw [HRES.out, if_pos trivial, hnp, if_neg (by simp)]⟩
        clear hnp HP
        have HR : Aside0 (res = ([], 1)) := ⟨by rw [HRES2.out, if_pos (by rw [← HN.out.2]; omega)]⟩
        clear hodd
        go_wp2
        go_ret2
        refine ⟨.slice none 0 0, ?_, ?_, HB.out⟩
        · rw [HR.out]; rfl
        · rw [HR.out]; exact Kd.R_nil _ _ _ _ _
  · have e0 : ((m1 : Int) == 0) = false := beq_eq_false_iff_ne.2 (by omega)
    have e4 : (4 : Int) < (m1 : Int) := by omega
    go_enter Try.func33, Try.ntmps33
    go_wp2_with (go_at_call 15; refine pm.mono ?_; rintro e w1 ⟨rfl, hb⟩; have HB := Aside0.mk hb; clear hb pm)
    clear e0 e4
    go_loopw [7, 8] (fun ov iv wr => ∃ k : Nat, k ≤ m1 ∧ iv = .int .i64 k ∧ ov = .bool true ∧ Aside0 (∀ j : Nat, j < k → noPair (rd_T32 m j) = false) ∧ Aside0 (Below w.heap.size w wr)) (fun _ iv _ => m1 - (intOf iv).toNat)
    case atStart => exact ⟨0, by omega, rfl, rfl, ⟨fun j hj => absurd hj (by omega)⟩, HB⟩
    case round =>
      clear HB
      obtain ⟨k, hk, rfl, rfl, HP, HB⟩ := hrel
      by_cases hlt : k < m1
      · obtain ⟨ad, rfl, b0, b1, b2⟩ := at_T32 (Kd.C_below HX.out.2.2.1 HB.out) (k : Int) (by omega) (by rw [← HN.out.2]; omega)
        rw [Int.toNat_natCast] at b0 b1 b2
        have hkl : k < m.length := by rw [← HN.out.2]; exact hlt
        have hmem : rd_T32 m (k : Int) ∈ m := rdL_mem hkl
        skip
        obtain ⟨x, hx⟩ : ∃ x, x = rd_T32 m (k : Int) := ⟨_, rfl⟩
        rw [← hx] at b0 b1 b2 hmem
        have HMEM := Aside0.mk (And.intro hx hmem)
        have pp := fun (j : Nat) (w' : World) => rpair_any x.f0 x.f1 (w'.drewN j)
        obtain ⟨pb, hpb⟩ : ∃ pb, pb = pairB x.f0 x.f1 := ⟨_, rfl⟩
        rw [← hpb] at pp
        have HPB := Aside0.mk hpb
        have PP := Aside0.mk pp
        skip
        skip
        skip
        clear hx hmem hpb pp hkl
        cases pb with
        | true =>
          have HPN : Aside0 (∀ j : Nat, j < k + 1 → noPair (rd_T32 m j) = false) := ⟨fun j hj => by
            rcases Nat.lt_or_ge j k with h | h
            · exact HP.out j h
            · obtain rfl : j = k := by omega
              rw [← HMEM.out.1]
              unfold noPair
              rw [← HPB.out]; rfl⟩
          go_wp2
          go_quiet ((go_at_call 34; refine (PP.out _ _).mono ?_; rintro e w' ⟨rfl, ⟨nd, rfl⟩⟩; exact ⟨rfl, _, World.drewN_drewN _ _ _⟩))
          go_wp2
          exact ⟨⟨k + 1, by omega, by go_num, rfl, HPN, ⟨pw_below_drewN HB.out _⟩⟩, by simp [intOf]; omega⟩
        | false =>
          have HR : Aside0 (res = ([], 3)) := ⟨by
            rw [HRES.out, if_pos trivial, if_pos (List.any_eq_true.2 ⟨x, HMEM.out.2, by unfold noPair; rw [← HPB.out]; rfl⟩)]⟩
          go_wp2
          go_quiet ((go_at_call 34; refine (PP.out _ _).mono ?_; rintro e w' ⟨rfl, ⟨nd, rfl⟩⟩; exact ⟨rfl, _, World.drewN_drewN _ _ _⟩))
          go_wp2
          go_ret2
          refine ⟨.slice none 0 0, ?_, ?_, pw_below_drewN HB.out _⟩
          · rw [HR.out]; rfl
          · rw [HR.out]; exact Kd.R_nil _ _ _ _ _
      · have hkm : k = m1 := by omega
        subst k
        have hnp : m.any noPair = false := noPair_all (fun j hj => HP.out j (by rw [HN.out.2]; exact hj))
        have HRES2 : Aside0 (res = if m.length = 0 ∨ 4 < m.length ∨ m.any noQty = true then ([], 1) else holdL l m) := ⟨by rw [HRES.out, if_pos trivial, hnp, if_neg (by simp)]⟩
        clear hnp HP
        have HR : Aside0 (res = ([], 1)) := ⟨by rw [HRES2.out, if_pos (by rw [← HN.out.2]; omega)]⟩
        clear hodd
        go_wp2
        go_ret2
        refine ⟨.slice none 0 0, ?_, ?_, HB.out⟩
        · rw [HR.out]; rfl
        · rw [HR.out]; exact Kd.R_nil _ _ _ _ _
end Go.Proofs.Ytkhghabenhhhaaa.Stock

namespace Go.Proofs.Ytkhghabenhhhaaa.Stock
open Go Go.RowKit Go.Proofs.Ytkhghabenhhhaaa.Pa Go.Proofs.YtkhghabenhhhaaaW.PrintWords Go.Proofs.YtkhghabenhhhaaaW.PrintLast Go.Proofs.YtkhghabenhhhaaaW.PrintMore
set_option linter.unusedVariables false
set_option linter.unusedSimpArgs false

set_option maxRecDepth 100000 in
set_option maxHeartbeats 32000000 in
theorem rhold_good (A : Option Addr) (c : Nat) (l : List Spot) (A1 : Option Addr) (c1 : Nat) (m : List Line) (w : World) (hC : Kd.C k37 w A l.length l) (hc : l.length ≤ c) (hC1 : Kd.C k32 w A1 m.length m) (hc1 : m.length ≤ c1) (hl : Lim l) (hm : LimL m) (hmay : mayB l = true) (h0 : ¬ m.length = 0) (h4 : ¬ 4 < m.length) :
    Calls Try.prog 33 #[.slice A l.length c, .slice A1 m.length c1] w (FreshE w (holdP l m)) := by
  have pm := rmay_any A c l w hC hc hl.1
  have hmax := Kd.C_max hC1
  have HX := Aside0.mk (And.intro hC (And.intro hc (And.intro hC1 (And.intro hc1 (And.intro hl hm)))))
  obtain ⟨n, hn⟩ : ∃ n, n = l.length := ⟨_, rfl⟩
  obtain ⟨m1, hm1⟩ : ∃ m1, m1 = m.length := ⟨_, rfl⟩
  have HN := Aside0.mk (And.intro hn hm1)
  obtain ⟨res, hres⟩ : ∃ res, res = holdP l m := ⟨_, rfl⟩
  rw [hmay] at pm
  unfold holdP at hres
  rw [hmay] at hres
  have hgoal : FreshE w (holdP l m) = FreshE w res := by unfold holdP; rw [hres, hmay]
  rw [hgoal]
  have HRES := Aside0.mk hres
  rw [← hn] at pm ⊢
  rw [← hm1] at hmax ⊢ h0 h4
  have HM := Aside0.mk (mayB_iff.1 hmay)
  clear hC hc hC1 hc1 hl hm hn hm1 hres hmay hgoal
  have e0 : ((m1 : Int) == 0) = false := beq_eq_false_iff_ne.2 (by omega)
  have e4 : decide ((4 : Int) < (m1 : Int)) = false := decide_eq_false (by omega)
  go_enter Try.func33, Try.ntmps33
  go_wp2_with (go_at_call 15; refine pm.mono ?_; rintro e w1 ⟨rfl, hb⟩; have HB := Aside0.mk hb; clear hb pm)
  clear e0 e4
  go_loopw [7, 8] (fun ov iv wr => ∃ k : Nat, k ≤ m1 ∧ iv = .int .i64 k ∧ ov = .bool ((m.take k).any noQty) ∧ Aside0 (∀ j : Nat, j < k → noPair (rd_T32 m j) = false) ∧ Aside0 (Below w.heap.size w wr)) (fun _ iv _ => m1 - (intOf iv).toNat)
  case atStart => exact ⟨0, by omega, rfl, rfl, ⟨fun j hj => absurd hj (by omega)⟩, HB⟩
  case round =>
    clear HB
    obtain ⟨k, hk, rfl, rfl, HP, HB⟩ := hrel
    by_cases hlt : k < m1
    · obtain ⟨ad, rfl, b0, b1, b2⟩ := at_T32 (Kd.C_below HX.out.2.2.1 HB.out) (k : Int) (by omega) (by rw [← HN.out.2]; omega)
      rw [Int.toNat_natCast] at b0 b1 b2
      have hkl : k < m.length := by rw [← HN.out.2]; exact hlt
      have hmem : rd_T32 m (k : Int) ∈ m := rdL_mem hkl
      have htk := takeq_any hkl
      obtain ⟨x, hx⟩ : ∃ x, x = rd_T32 m (k : Int) := ⟨_, rfl⟩
      rw [← hx] at b0 b1 b2 hmem htk
      have HMEM := Aside0.mk (And.intro hx hmem)
      have pp := fun (j : Nat) (w' : World) => rpair_any x.f0 x.f1 (w'.drewN j)
      obtain ⟨pb, hpb⟩ : ∃ pb, pb = pairB x.f0 x.f1 := ⟨_, rfl⟩
      rw [← hpb] at pp
      have HPB := Aside0.mk hpb
      have PP := Aside0.mk pp
      obtain ⟨ob, hob⟩ : ∃ ob, ob = (m.take k).any noQty := ⟨_, rfl⟩
      rw [← hob] at htk ⊢
      have HTK := Aside0.mk (And.intro htk hob)
      clear hx hmem hpb pp hkl htk hob
      cases pb with
      | true =>
        have HPN : Aside0 (∀ j : Nat, j < k + 1 → noPair (rd_T32 m j) = false) := ⟨fun j hj => by
          rcases Nat.lt_or_ge j k with h | h
          · exact HP.out j h
          · obtain rfl : j = k := by omega
            rw [← HMEM.out.1]
            unfold noPair
            rw [← HPB.out]; rfl⟩
        go_wp2
        go_quiet ((go_at_call 34; refine (PP.out _ _).mono ?_; rintro e w' ⟨rfl, ⟨nd, rfl⟩⟩; exact ⟨rfl, _, World.drewN_drewN _ _ _⟩))
        cases ob with
        | true =>
          have HOB : Aside0 (true = (m.take (k + 1)).any noQty) := ⟨by rw [HTK.out.1]; rfl⟩
          go_wp2
          exact ⟨⟨k + 1, by omega, by go_num, by rw [← HOB.out], HPN, ⟨pw_below_drewN HB.out _⟩⟩, by simp [intOf]; omega⟩
        | false =>
          by_cases hq0 : x.f2 ≤ 0
          · have HOB : Aside0 (true = (m.take (k + 1)).any noQty) := ⟨by rw [HTK.out.1]; unfold noQty; rw [decide_eq_true hq0]; rfl⟩
            go_wp2
            exact ⟨⟨k + 1, by omega, by go_num, by rw [← HOB.out], HPN, ⟨pw_below_drewN HB.out _⟩⟩, by simp [intOf]; omega⟩
          · have HOB : Aside0 (false = (m.take (k + 1)).any noQty) := ⟨by rw [HTK.out.1]; unfold noQty; rw [decide_eq_false hq0]; rfl⟩
            go_wp2
            exact ⟨⟨k + 1, by omega, by go_num, by rw [← HOB.out], HPN, ⟨pw_below_drewN HB.out _⟩⟩, by simp [intOf]; omega⟩
      | false =>
        have HR : Aside0 (res = ([], 3)) := ⟨by
          rw [HRES.out, if_pos trivial, if_pos (List.any_eq_true.2 ⟨x, HMEM.out.2, by unfold noPair; rw [← HPB.out]; rfl⟩)]⟩
        go_wp2
        go_quiet ((go_at_call 34; refine (PP.out _ _).mono ?_; rintro e w' ⟨rfl, ⟨nd, rfl⟩⟩; exact ⟨rfl, _, World.drewN_drewN _ _ _⟩))
        go_wp2
        go_ret2
        refine ⟨.slice none 0 0, ?_, ?_, pw_below_drewN HB.out _⟩
        · rw [HR.out]; rfl
        · rw [HR.out]; exact Kd.R_nil _ _ _ _ _
    · have hkm : k = m1 := by omega
      subst k
      have hnp : m.any noPair = false := noPair_all (fun j hj => HP.out j (by rw [HN.out.2]; exact hj))
      have HRES2 : Aside0 (res = if m.length = 0 ∨ 4 < m.length ∨ m.any noQty = true then ([], 1) else holdL l m) := ⟨by rw [HRES.out, if_pos trivial, hnp, if_neg (by simp)]⟩
      have HPP := HP
      clear hnp HP
      have htk : m.take m1 = m := List.take_of_length_le (by rw [HN.out.2]; exact Nat.le_refl _)
      rw [htk]
      clear htk
      obtain ⟨qb, hqb⟩ : ∃ qb, qb = m.any noQty := ⟨_, rfl⟩
      rw [← hqb]
      have HQB := Aside0.mk hqb
      clear hqb
      cases qb with
      | true =>
        have HR : Aside0 (res = ([], 1)) := ⟨by rw [HRES2.out, if_pos (.inr (.inr HQB.out.symm))]⟩
        go_wp2
        go_ret2
        refine ⟨.slice none 0 0, ?_, ?_, HB.out⟩
        · rw [HR.out]; rfl
        · rw [HR.out]; exact Kd.R_nil _ _ _ _ _
      | false =>
        have HR : Aside0 (res = holdL l m) := ⟨by
          rw [HRES2.out, if_neg]
          rw [← HN.out.2, ← HQB.out]
          simp
          omega⟩
        have HALL : Aside0 (∀ j : Nat, j < m1 → pairB (rd_T32 m j).f0 (rd_T32 m j).f1 = true ∧ 0 < (rd_T32 m j).f2) := ⟨fun j hj => by
          have h1 := HPP.out j hj
          have h2 := List.any_eq_false.1 HQB.out.symm _ (rdL_mem (m := m) (k := j) (by rw [← HN.out.2]; exact hj))
          unfold noPair at h1
          unfold noQty at h2
          refine ⟨by simpa using h1, by simpa using h2⟩⟩
        clear HPP
        go_wp2_with fail
        go_at_call 46
        refine (laid_anyN A c l n _ HN.out.1 (Kd.C_below HX.out.1 HB.out) HX.out.2.1 HM.out).mono ?_
        rintro e w2 ⟨rfl, hb⟩
        have hb2 : Below w.heap.size w w2 := below_then HB.out HB.out.size hb
        have hz := zero66
        have t0 : TabAt (w2.alloc (.cells (tc z0 z0) 66)) w2.heap.size z0 z0 := heap_alloc_new w2 _
        have hs := store66 (H := hOf l) (R := rOf l) t0
        have t1 : TabAt ((w2.alloc (.cells (tc z0 z0) 66)).setRow w2.heap.size (tc (hOf l) (rOf l))) w2.heap.size (hOf l) (rOf l) := t0.set
        have hb3 : Below w.heap.size w ((w2.alloc (.cells (tc z0 z0) 66)).setRow w2.heap.size (tc (hOf l) (rOf l))) := below_setRow (hb2.alloc hb2.size _) hb2.size _
        have hgs : w.heap.size ≤ w2.heap.size := hb2.size
        clear hb hb2 t0
        go_wp2
        obtain ⟨w3, hw3⟩ : ∃ w3, w3 = (w2.alloc (.cells (tc z0 z0) 66)).setRow w2.heap.size (tc (hOf l) (rOf l)) := ⟨_, rfl⟩
        obtain ⟨g, hg⟩ : ∃ g, g = w2.heap.size := ⟨_, rfl⟩
        rw [← hw3] at t1 hb3 ⊢
        rw [← hg] at t1 hgs ⊢
        have H3 := Aside0.mk (And.intro t1 hb3)
        clear hw3 hs hz hg t1 hb3
        go_loopw [10] (fun iv wr => ∃ (k : Nat) (cur : List Spot), k ≤ m1 ∧ iv = .int .i64 k ∧ Aside0 (holdL l m = holdL cur (m.drop k) ∧ Lim cur ∧ May cur) ∧ Aside0 (TabAt wr g (hOf cur) (rOf cur) ∧ Below w.heap.size w wr)) (fun iv _ => m1 - (intOf iv).toNat)
        case atStart => exact ⟨0, l, by omega, rfl, ⟨rfl, HX.out.2.2.2.2.1, HM.out⟩, H3⟩
        case round =>
          clear H3 HB
          obtain ⟨k, cur, hk, rfl, HC, HB⟩ := hrel
          by_cases hlt : k < m1
          · obtain ⟨ad, rfl, b0, b1, b2⟩ := at_T32 (Kd.C_below HX.out.2.2.1 HB.out.2) (k : Int) (by omega) (by rw [← HN.out.2]; omega)
            rw [Int.toNat_natCast] at b0 b1 b2
            have hkl : k < m.length := by rw [← HN.out.2]; exact hlt
            have hq : inI (rd_T32 m (k : Int)).f2 := HX.out.2.2.2.2.2 _ (rdL_mem hkl)
            obtain ⟨hp, hpos⟩ := HALL.out k hlt
            have hdr := rdL hkl
            obtain ⟨x, hx⟩ : ∃ x, x = rd_T32 m (k : Int) := ⟨_, rfl⟩
            rw [← hx] at b0 b1 b2 hq hdr hp hpos
            have hst := hold_step HC.out.2.2 hp hpos (m.drop (k + 1))
            rw [← hdr, ← HC.out.1] at hst
            have hs := getS_sound HC.out.2.2 HC.out.2.1 x.f0 x.f1
            obtain ⟨p0, p1, p2, p3⟩ := pairB_iff.1 hp
            obtain ⟨s0, s1, s2⟩ := hs
            rw [(hOf_ix cur hp).symm] at s1 s2
            rw [(rOf_ix cur hp).symm] at s0 s1
            have q2 := hq.2
            have hgl : g < wr.heap.size := (Array.getElem?_eq_some_iff.1 HB.out.1).1
            have hD : Desk (wr.alloc (.cells #[.int .i64 x.f0, .int .i64 x.f1, .int .i64 x.f2] 32)) wr.heap.size g x (hOf cur) (rOf cur) := ⟨heap_alloc_new wr _, HB.out.1.below ((Below.refl _ _).alloc (Nat.le_refl _) _) hgl, by omega⟩
            have hba : Below w.heap.size w (wr.alloc (.cells #[.int .i64 x.f0, .int .i64 x.f1, .int .i64 x.f2] 32)) := HB.out.2.alloc HB.out.2.size _
            have HP2 := Aside0.mk hp
            have HST := Aside0.mk hst
            clear hx hdr hst hq hp hkl
            go_wp2
            obtain ⟨w4, hw4⟩ : ∃ w4 : World, w4 = wr.alloc (.cells #[.int .i64 x.f0, .int .i64 x.f1, .int .i64 x.f2] 32) := ⟨_, rfl⟩
            obtain ⟨b, hb⟩ : ∃ b, b = wr.heap.size := ⟨_, rfl⟩
            rw [← hw4] at hD hba ⊢
            rw [← hb] at hD ⊢
            clear hw4 hb hgl b0 b1 b2
            obtain ⟨x0, x1, x2⟩ := hD.cells
            have c0 := hD.h HP2.out
            obtain ⟨c1, g1⟩ := hD.r HP2.out
            obtain ⟨hx, hhx⟩ : ∃ hx, hx = hOf cur (ix x.f0 x.f1) := ⟨_, rfl⟩
            obtain ⟨rx, hrx⟩ : ∃ rx, rx = rOf cur (ix x.f0 x.f1) := ⟨_, rfl⟩
            rw [← hhx] at s1 s2 c0
            rw [← hrx] at s0 s1 c1
            have HH := Aside0.mk (And.intro hhx hrx)
            have HD := Aside0.mk (And.intro hD hba)
            clear hD hba hhx hrx
            have e3 : IntKind.i64.wrap (hx - rx) = hx - rx := IntWalk.i64_in _ (by omega)
            go_quiet (fail)
            clear e3
            obtain ⟨w5, hw5⟩ : ∃ w5 : World, w5 = w4.drewN nq := ⟨_, rfl⟩
            have hD : Desk w5 b g x (hOf cur) (rOf cur) ∧ Below w.heap.size w w5 := by rw [hw5]; exact ⟨⟨HD.out.1.blk, HD.out.1.tab, HD.out.1.ne⟩, pw_below_drewN HD.out.2 _⟩
            rw [← hw5]
            clear hw5 HD x0 x1 x2 c0 c1 g1
            have HD := Aside0.mk hD
            by_cases hf : hx - rx < x.f2
            · have HR2 : Aside0 (res = ([], 31)) := ⟨by rw [HR.out, HST.out, if_pos (by rw [← HH.out.1, ← HH.out.2]; exact hf)]⟩
              clear hD
              go_wp2
              go_ret2
              refine ⟨.slice none 0 0, ?_, ?_, HD.out.2⟩
              · rw [HR2.out]; rfl
              · rw [HR2.out]; exact Kd.R_nil _ _ _ _ _
            · obtain ⟨x0, x1, x2⟩ := hD.1.cells
              obtain ⟨c1, g1⟩ := hD.1.r HP2.out
              rw [← HH.out.2] at c1
              clear hD
              have e3 : IntKind.i64.wrap (rx + x.f2) = rx + x.f2 := IntWalk.i64_in _ (by omega)
              have hnb : ¬ b = g := HD.out.1.ne
              have hnb2 : ¬ g = b := fun e => hnb e.symm
              go_wp2
              go_still_tail 18, (by kernel_rfl)
              go_wp2
              clear e3
              obtain ⟨nx, hnx⟩ : ∃ nx, nx = putS cur { getS cur x.f0 x.f1 with f2 := hx, f3 := rx + x.f2 } := ⟨_, rfl⟩
              have hmn : May nx := by rw [hnx]; exact HC.out.2.2.put (fine_with HC.out.2.2 HP2.out (by omega) (by omega))
              have hln : Lim nx := by rw [hnx]; exact HC.out.2.1.put HC.out.2.2 s2
              refine ⟨⟨k + 1, nx, by omega, by go_num, ⟨?_, hln, hmn⟩, ⟨?_, ?_⟩⟩, by simp [intOf]; omega⟩
              · rw [HST.out, if_neg (by rw [← HH.out.1, ← HH.out.2]; omega), hnx, HH.out.1, HH.out.2]
              · have h3 := HD.out.1.tab.setR (ix_lt HP2.out) (rx + x.f2)
                rw [show 64 + ix x.f0 x.f1 = 64 + x.f0.toNat * 4 + x.f1.toNat by unfold ix; omega] at h3
                have k1 := tab_with HC.out.2.2 HP2.out (x := hx) (y := rx + x.f2) (by omega) (by omega)
                rw [← upT_same (hOf cur) (ix x.f0 x.f1) HH.out.1, ← hnx] at k1
                unfold TabAt at h3 ⊢
                rw [k1] at h3
                exact h3
              · exact (HD.out.2.setCell (p := ⟨g, 64 + x.f0.toNat * 4 + x.f1.toNat, none⟩) hgs _).drew
          · have hkm : k = m1 := by omega
            subst k
            have HR2 : Aside0 (res = (cur, 0)) := ⟨by
              rw [HR.out, HC.out.1, List.drop_of_length_le (by rw [HN.out.2]; exact Nat.le_refl _)]
              rfl⟩
            have hT : TabAt wr g (hOf cur) (rOf cur) := HB.out.1
            have pL := list_of HC.out.2.2 wr
            go_wp2
            refine wp_load66 (.tmp 9) rfl rfl hT ?_
            go_wp2_with fail
            go_at_call 48
            refine pL.mono ?_
            rintro e w7 ⟨v, rfl, hv, hb5⟩
            have HV := Aside0.mk (And.intro hv hb5)
            clear hv hb5 hT pL
            go_wp2
            go_ret2
            refine ⟨v, ?_, ?_, HB.out.2.trans (HV.out.2.mono HB.out.2.size)⟩
            · rw [HR2.out]; rfl
            · rw [HR2.out]; exact Kd.R_lower HV.out.1 HB.out.2.size
theorem rhold_any (A : Option Addr) (c : Nat) (l : List Spot) (A1 : Option Addr) (c1 : Nat) (m : List Line) (w : World) (hC : Kd.C k37 w A l.length l) (hc : l.length ≤ c) (hC1 : Kd.C k32 w A1 m.length m) (hc1 : m.length ≤ c1) (hl : Lim l) (hm : LimL m) :
    Calls Try.prog 33 #[.slice A l.length c, .slice A1 m.length c1] w (FreshE w (holdP l m)) := by
  by_cases h1 : mayB l = true
  · by_cases h2 : m.length = 0 ∨ 4 < m.length
    · exact rhold_odd A c l A1 c1 m w hC hc hC1 hc1 hl hm h1 h2
    · exact rhold_good A c l A1 c1 m w hC hc hC1 hc1 hl hm h1 (fun h => h2 (.inl h)) (fun h => h2 (.inr h))
  · exact rhold_may A c l A1 c1 m w hC hc hC1 hc1 hl hm (by simpa using h1)
theorem rmove_any (A : Option Addr) (c : Nat) (l : List Spot) (sku loc qty tw : Int) (w : World) (hC : Kd.C k37 w A l.length l) (hc : l.length ≤ c) (hl : Lim l) (hq : inI qty) :
    Calls Try.prog 31 #[.slice A l.length c, .agg #[.int .i64 sku, .int .i64 loc, .int .i64 qty], .int .i64 tw] w (FreshE w (moveP l sku loc qty tw)) := by
  by_cases h : moveE l sku loc qty tw = 0
  · exact rmove_good A c l sku loc qty tw w hC hc hl hq h
  · exact rmove_bad A c l sku loc qty tw w hC hc hl h
end Go.Proofs.Ytkhghabenhhhaaa.Stock

namespace Go.Proofs.Ytkhghabenhhhaaa.Ext
set_option linter.unusedVariables false
open Go Go.RowKit Go.Proofs.Ytkhghabenhhhaaa.Pa Go.Proofs.Ytkhghabenhhhaaa.Stock Go.Proofs.YtkhghabenhhhaaaW.PrintWords Go.Proofs.YtkhghabenhhhaaaW.PrintLast Go.Proofs.YtkhghabenhhhaaaW.PrintMore

def quartermasterref17_Take.f (l0 : List S37) (a1_0 a1_1 a1_2 : Int) : Option (List S37 × Int) := if Lim l0 ∧ inI a1_2 then some (turnedP (takeF a1_2) l0 a1_0 a1_1 a1_2) else none
theorem quartermasterref17_Take.calls (A0 : Option Addr) (c0 : Nat) (l0 : List (S37)) (a1_0 : Int) (a1_1 : Int) (a1_2 : Int) (r1 : List S37) (r2 : Int) (w : World) (hr0 : Kd.C k37 w A0 l0.length l0) (hc0 : l0.length ≤ c0) (h : quartermasterref17_Take.f l0 a1_0 a1_1 a1_2 = some (r1, r2)) :
    Calls Try.prog 29 #[.slice A0 l0.length c0, .agg #[.int .i64 a1_0, .int .i64 a1_1, .int .i64 a1_2]] w fun e w' => ∃ v0_ : Value, e = .returned (.tuple #[v0_, .int .i64 r2]) ∧ Kd.R k37 37 w' w.heap.size (fun _ => True) v0_ r1 ∧ Below w.heap.size w w' := by
  unfold quartermasterref17_Take.f at h
  by_cases hp : Lim l0 ∧ inI a1_2
  · rw [if_pos hp] at h
    have p := rtake_any A0 c0 l0 a1_0 a1_1 a1_2 w hr0 hc0 hp.1 hp.2
    rw [Option.some.inj h] at p
    exact p
  · rw [if_neg hp] at h; cases h

def quartermasterref17_Adjust.f (l0 : List S37) (a1_0 a1_1 a1_2 : Int) : Option (List S37 × Int) := if Lim l0 ∧ inI a1_2 then some (adjustP l0 a1_0 a1_1 a1_2) else none
theorem quartermasterref17_Adjust.calls (A0 : Option Addr) (c0 : Nat) (l0 : List (S37)) (a1_0 : Int) (a1_1 : Int) (a1_2 : Int) (r1 : List S37) (r2 : Int) (w : World) (hr0 : Kd.C k37 w A0 l0.length l0) (hc0 : l0.length ≤ c0) (h : quartermasterref17_Adjust.f l0 a1_0 a1_1 a1_2 = some (r1, r2)) :
    Calls Try.prog 30 #[.slice A0 l0.length c0, .agg #[.int .i64 a1_0, .int .i64 a1_1, .int .i64 a1_2]] w fun e w' => ∃ v0_ : Value, e = .returned (.tuple #[v0_, .int .i64 r2]) ∧ Kd.R k37 37 w' w.heap.size (fun _ => True) v0_ r1 ∧ Below w.heap.size w w' := by
  unfold quartermasterref17_Adjust.f at h
  by_cases hp : Lim l0 ∧ inI a1_2
  · rw [if_pos hp] at h
    have p := radjust_any A0 c0 l0 a1_0 a1_1 a1_2 w hr0 hc0 hp.1 hp.2
    rw [Option.some.inj h] at p
    exact p
  · rw [if_neg hp] at h; cases h

def quartermasterref17_Move.f (l0 : List S37) (a1_0 a1_1 a1_2 : Int) (a2 : Int) : Option (List S37 × Int) := if Lim l0 ∧ inI a1_2 then some (moveP l0 a1_0 a1_1 a1_2 a2) else none
theorem quartermasterref17_Move.calls (A0 : Option Addr) (c0 : Nat) (l0 : List (S37)) (a1_0 : Int) (a1_1 : Int) (a1_2 : Int) (a2 : Int) (r1 : List S37) (r2 : Int) (w : World) (hr0 : Kd.C k37 w A0 l0.length l0) (hc0 : l0.length ≤ c0) (h : quartermasterref17_Move.f l0 a1_0 a1_1 a1_2 a2 = some (r1, r2)) :
    Calls Try.prog 31 #[.slice A0 l0.length c0, .agg #[.int .i64 a1_0, .int .i64 a1_1, .int .i64 a1_2], .int .i64 a2] w fun e w' => ∃ v0_ : Value, e = .returned (.tuple #[v0_, .int .i64 r2]) ∧ Kd.R k37 37 w' w.heap.size (fun _ => True) v0_ r1 ∧ Below w.heap.size w w' := by
  unfold quartermasterref17_Move.f at h
  by_cases hp : Lim l0 ∧ inI a1_2
  · rw [if_pos hp] at h
    have p := rmove_any A0 c0 l0 a1_0 a1_1 a1_2 a2 w hr0 hc0 hp.1 hp.2
    rw [Option.some.inj h] at p
    exact p
  · rw [if_neg hp] at h; cases h

def lessP (l0 : List S37) (a1_0 a1_1 a1_2 : Int) : Bool → List S37 × Int
  | true => turnedP (shipF a1_2) l0 a1_0 a1_1 a1_2
  | false => turnedP (freeF a1_2) l0 a1_0 a1_1 a1_2

def quartermasterref17_Less.f (l0 : List S37) (a1_0 a1_1 a1_2 : Int) (a2 : Bool) : Option (List S37 × Int) := if Lim l0 ∧ inI a1_2 then some (lessP l0 a1_0 a1_1 a1_2 a2) else none
theorem quartermasterref17_Less.calls (A0 : Option Addr) (c0 : Nat) (l0 : List (S37)) (a1_0 : Int) (a1_1 : Int) (a1_2 : Int) (a2 : Bool) (r1 : List S37) (r2 : Int) (w : World) (hr0 : Kd.C k37 w A0 l0.length l0) (hc0 : l0.length ≤ c0) (h : quartermasterref17_Less.f l0 a1_0 a1_1 a1_2 a2 = some (r1, r2)) :
    Calls Try.prog 32 #[.slice A0 l0.length c0, .agg #[.int .i64 a1_0, .int .i64 a1_1, .int .i64 a1_2], .bool a2] w fun e w' => ∃ v0_ : Value, e = .returned (.tuple #[v0_, .int .i64 r2]) ∧ Kd.R k37 37 w' w.heap.size (fun _ => True) v0_ r1 ∧ Below w.heap.size w w' := by
  unfold quartermasterref17_Less.f at h
  by_cases hp : Lim l0 ∧ inI a1_2
  · rw [if_pos hp] at h
    have p := (show Calls Try.prog 32 #[.slice A0 l0.length c0, .agg #[.int .i64 a1_0, .int .i64 a1_1, .int .i64 a1_2], .bool a2] w (FreshE w (lessP l0 a1_0 a1_1 a1_2 a2)) by cases a2 with | true => exact rship_any A0 c0 l0 a1_0 a1_1 a1_2 w hr0 hc0 hp.1 hp.2 | false => exact rfree_any A0 c0 l0 a1_0 a1_1 a1_2 w hr0 hc0 hp.1 hp.2)
    rw [Option.some.inj h] at p
    exact p
  · rw [if_neg hp] at h; cases h

def quartermasterref17_Hold.f (l0 : List S37) (l1 : List S32) : Option (List S37 × Int) := if Lim l0 ∧ LimL l1 then some (holdP l0 l1) else none
theorem quartermasterref17_Hold.calls (A0 : Option Addr) (c0 : Nat) (l0 : List (S37)) (A1 : Option Addr) (c1 : Nat) (l1 : List (S32)) (r1 : List S37) (r2 : Int) (w : World) (hr0 : Kd.C k37 w A0 l0.length l0) (hc0 : l0.length ≤ c0) (hr1 : Kd.C k32 w A1 l1.length l1) (hc1 : l1.length ≤ c1) (h : quartermasterref17_Hold.f l0 l1 = some (r1, r2)) :
    Calls Try.prog 33 #[.slice A0 l0.length c0, .slice A1 l1.length c1] w fun e w' => ∃ v0_ : Value, e = .returned (.tuple #[v0_, .int .i64 r2]) ∧ Kd.R k37 37 w' w.heap.size (fun _ => True) v0_ r1 ∧ Below w.heap.size w w' := by
  unfold quartermasterref17_Hold.f at h
  by_cases hp : Lim l0 ∧ LimL l1
  · rw [if_pos hp] at h
    have p := rhold_any A0 c0 l0 A1 c1 l1 w hr0 hc0 hr1 hc1 hp.1 hp.2
    rw [Option.some.inj h] at p
    exact p
  · rw [if_neg hp] at h; cases h
end Go.Proofs.Ytkhghabenhhhaaa.Ext
