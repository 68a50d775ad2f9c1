/- The walk of StockHolds. -/
import Derived.Test.YtkhghabenhhhaaaStockHolds
namespace Go.Proofs.Ytkhghabenhhhaaa.Stock
open Go Go.RowKit Go.Proofs.Ytkhghabenhhhaaa.Pa Go.Proofs.Ytkhghabenhhhaaa.Py Go.Proofs.YtkhghabenhhhaaaW.PrintWords
set_option linter.unusedVariables false

theorem awake_any (w : World) : Calls Try.prog 9 #[] w fun e w' => e = .returned (.bool true) ∧ Below w.heap.size w w' := quartermasterlaw17_awake.calls true w Pure.awake_f
theorem rd_one {m : List Line} {k : Nat} (h : k < m.length) : (m.take (k + 1)).drop k = [rd_T32 m (k : Int)] := by
  rw [List.drop_take]
  have : k + 1 - k = 1 := by omega
  rw [this, rdL h]; rfl
theorem seq_end {cur : List Spot} {f : Int} {r : List Line} (h : r = []) : (if f = 0 then seqH cur r else (cur, f)) = (cur, f) := by
  by_cases h0 : f = 0
  · rw [if_pos h0, h, h0]; rfl
  · rw [if_neg h0]
set_option maxRecDepth 100000 in
set_option maxHeartbeats 16000000 in
theorem stockHolds_calls (A : Option Addr) (c : Nat) (l : List Spot) (A1 : Option Addr) (c1 : Nat) (m : List Line) (w : World) (h1 : l.length ≤ maxLen) (h2 : ∀ y ∈ l, qT37 y) (h3 : m.length ≤ maxLen) (h4 : ∀ y ∈ m, qT32 y) (hC : Kd.C k37 w A l.length l) (hc : l.length ≤ c) (hC1 : Kd.C k32 w A1 m.length m) (hc1 : m.length ≤ c1) :
    Calls Try.prog 3 #[.slice A l.length c, .slice A1 m.length c1] w fun e w' => e = .returned (.bool true) ∧ Below w.heap.size w w' := by
  have hlm : LimL m := Pure.limL_of h4
  have hs : ∀ s ∈ l, s.f2 < 9223372036854775808 := fun s hs => (Pure.wfb (h2 s hs).2.2.1).2
  have hmax0 := Kd.C_max hC
  have hmax := Kd.C_max hC1
  clear h1 h2 h3 h4
  obtain ⟨n, hn⟩ : ∃ n, n = l.length := ⟨_, rfl⟩
  obtain ⟨m1, hm1⟩ : ∃ m1, m1 = m.length := ⟨_, rfl⟩
  have HN := Aside0.mk (And.intro hn hm1)
  have HS := Aside0.mk (And.intro hs hlm)
  have HY := Aside0.mk (And.intro hC (And.intro hc (And.intro hC1 hc1)))
  rw [← hn] at hmax0 ⊢
  rw [← hm1] at hmax ⊢
  clear hC hc hC1 hc1 hs hlm hn hm1
  by_cases g1 : 100 < n
  · have e1 : (100 : Int) < (n : Int) := by omega
    clear g1
    go_enter Try.func3, Try.ntmps3
    go_wp2_with (go_at_call 9; refine (awake_any _).mono ?_; rintro e w1 ⟨rfl, hb⟩; have HB := Aside0.mk hb; clear hb)
    go_ret
    exact ⟨rfl, HB.out⟩
  have e1 : (n : Int) ≤ 100 := by omega
  by_cases g2 : m1 < 1
  · have e2 : (m1 : Int) < 1 := by omega
    clear g1 g2
    go_enter Try.func3, Try.ntmps3
    go_wp2_with (go_at_call 9; refine (awake_any _).mono ?_; rintro e w1 ⟨rfl, hb⟩; have HB := Aside0.mk hb; clear hb)
    go_ret
    exact ⟨rfl, HB.out⟩
  have e2 : (1 : Int) ≤ (m1 : Int) := by omega
  by_cases g3 : 4 < m1
  · have e3 : (4 : Int) < (m1 : Int) := by omega
    clear g1 g2 g3
    go_enter Try.func3, Try.ntmps3
    go_wp2_with (go_at_call 9; refine (awake_any _).mono ?_; rintro e w1 ⟨rfl, hb⟩; have HB := Aside0.mk hb; clear hb)
    go_ret
    exact ⟨rfl, HB.out⟩
  have e3 : (m1 : Int) ≤ 4 := by omega
  have HX : Aside0 (Kd.C k37 w A l.length l ∧ l.length ≤ c ∧ Kd.C k32 w A1 m.length m ∧ m.length ≤ c1 ∧ Lim l ∧ LimL m) := ⟨⟨HY.out.1, HY.out.2.1, HY.out.2.2.1, HY.out.2.2.2, ⟨by rw [← HN.out.1]; omega, HS.out.1⟩, HS.out.2⟩⟩
  have pm := fun W hb => may_any A c l W (Kd.C_below HX.out.1 hb) HX.out.2.1 HX.out.2.2.2.2.1.1
  obtain ⟨mb, hmb⟩ : ∃ mb, mb = mayB l := ⟨_, rfl⟩
  rw [← hmb, ← HN.out.1] at pm
  have HMB := Aside0.mk hmb
  have PM := Aside0.mk pm
  clear hmb pm
  cases mb with
  | false =>
    clear g1 g2 g3
    go_enter Try.func3, Try.ntmps3
    go_wp2_with (first | (go_at_call 9; refine (awake_any _).mono ?_; rintro e w1 ⟨rfl, hb⟩; have HB := Aside0.mk hb; clear hb) | (go_at_call 10; refine (PM.out _ HB.out).mono ?_; rintro e w2 ⟨rfl, hb⟩; have HB2 := Aside0.mk (below_then HB.out HB.out.size hb); clear hb))
    go_ret
    exact ⟨rfl, HB2.out⟩
  | true =>
    have HMAY := Aside0.mk (mayB_iff.1 HMB.out.symm)
    obtain ⟨res, hres⟩ : ∃ res, res = holdP l m := ⟨_, rfl⟩
    have HRES := Aside0.mk hres
    have ph := fun W hb => hold_any A c l A1 c1 m W (Kd.C_below HX.out.1 hb) HX.out.2.1 (Kd.C_below HX.out.2.2.1 hb) HX.out.2.2.2.1 HX.out.2.2.2.2.1 HX.out.2.2.2.2.2
    rw [← hres, ← HN.out.1, ← HN.out.2] at ph
    obtain ⟨e0, he0⟩ : ∃ e0, e0 = res.2 := ⟨_, rfl⟩
    have HE0 := Aside0.mk he0
    have PH := Aside0.mk ph
    clear hres ph g1 he0
    go_enter Try.func3, Try.ntmps3
    go_wp2_with (first | (go_at_call 9; refine (awake_any _).mono ?_; rintro e w1 ⟨rfl, hb⟩; have HB := Aside0.mk hb; clear hb) | (go_at_call 10; refine (PM.out _ HB.out).mono ?_; rintro e w2 ⟨rfl, hb⟩; have HB2 := Aside0.mk (below_then HB.out HB.out.size hb); clear hb) | fail)
    go_at_call 11
    refine (PH.out _ HB2.out).mono ?_
    rintro e w3 ⟨v, rfl, hv, hb⟩
    rw [← HE0.out]
    have hv2 := Kd.R_lower hv HB2.out.size
    have hb2 := below_then HB2.out HB2.out.size hb
    obtain ⟨A9, c9, rfl⟩ := Kd.R_slice hv2
    have hrd := Kd.R_reads' hv2
    obtain ⟨nr, hnr⟩ : ∃ nr, nr = res.1.length := ⟨_, rfl⟩
    have hmaxr := Kd.C_max hrd.2.2
    rw [← hnr] at hmaxr ⊢
    have HNR := Aside0.mk hnr
    have HV := Aside0.mk (And.intro hv2 (And.intro hrd.2.2 hrd.2.1))
    have HB3 := Aside0.mk hb2
    clear hv hb hv2 hb2 hrd hnr HB HB2 PM PH
    go_wp2
    go_loopw [8, 9, 10] (fun bv fv iv wr => ∃ (k : Nat) (cur : List Spot) (f : Int) (A' : Option Addr) (c' n' : Nat), k ≤ m1 ∧ iv = .int .i64 k ∧ fv = .int .i64 f ∧ bv = .slice A' n' c' ∧ Aside0 (n' = cur.length ∧ seqH l m = (if f = 0 then seqH cur (m.drop k) else (cur, f)) ∧ Lim cur ∧ Kd.C k37 wr A' cur.length cur ∧ cur.length ≤ c') ∧ Aside0 (Below w.heap.size w wr ∧ Below w3.heap.size w3 wr)) (fun _ _ iv _ => m1 - (intOf iv).toNat)
    case atStart => exact ⟨0, l, 0, A, c, n, by omega, rfl, rfl, rfl, ⟨HN.out.1, rfl, HX.out.2.2.2.2.1, Kd.C_below HX.out.1 HB3.out, HX.out.2.1⟩, ⟨HB3.out, Below.refl _ _⟩⟩
    case round =>
      obtain ⟨k, cur, f, A', c', n', hk, rfl, rfl, rfl, HC, HB⟩ := hrel
      by_cases hlt : k < m1
      · by_cases hf : f = 0
        · subst hf
          have hkl : k < m.length := by rw [← HN.out.2]; exact hlt
          have hcl : m1 ≤ c1 := by rw [HN.out.2]; exact HX.out.2.2.2.1
          obtain ⟨ad, rfl, b0, b1, b2⟩ := at_T32 (Kd.C_below HX.out.2.2.1 HB.out.1) (k : Int) (by omega) (by rw [← HN.out.2]; omega)
          clear b0 b1 b2
          have hmid := Kd.C_mid (lo := k) (hi := k + 1) (Kd.C_below HX.out.2.2.1 HB.out.1) (by omega) (by omega) HX.out.2.2.2.1
          rw [rd_one hkl, if_neg (show ¬ c1 = k by omega)] at hmid
          have hq : inI (rd_T32 m (k : Int)).f2 := HX.out.2.2.2.2.2 _ (rdL_mem hkl)
          have hdr := rdL hkl
          obtain ⟨x, hx⟩ : ∃ x, x = rd_T32 m (k : Int) := ⟨_, rfl⟩
          rw [← hx] at hmid hq hdr
          have pt := hold_any A' c' cur _ (c1 - k) [x] wr HC.out.2.2.2.1 HC.out.2.2.2.2 hmid (show 1 ≤ c1 - k by omega) HC.out.2.2.1 (fun y hy => by rw [List.mem_singleton.1 hy]; exact hq)
          rw [← HC.out.1] at pt
          obtain ⟨r, hr⟩ : ∃ r, r = holdP cur [x] := ⟨_, rfl⟩
          have hrl : Lim r.1 := by rw [hr]; exact (holdP_good HC.out.2.2.1 [x]).2.2
          have hstep : seqH l m = if r.2 = 0 then seqH r.1 (m.drop (k + 1)) else (cur, r.2) := by
            rw [HC.out.2.1, if_pos rfl, hdr, seqH, ← hr]
          rw [← hr] at pt
          obtain ⟨e4, he4⟩ : ∃ e4, e4 = r.2 := ⟨_, rfl⟩
          have HST := Aside0.mk (And.intro hrl (And.intro hstep he4))
          have PT := Aside0.mk pt
          have hck : k ≤ c1 := by omega
          have hck1 : k + 1 ≤ c1 := by omega
          clear hkl hmid hq hdr hx pt hr hrl hstep he4
          go_wp2_with fail
          go_at_call 11
          refine PT.out.mono ?_
          rintro e w4 ⟨v, rfl, hv, hb⟩
          rw [← HST.out.2.2]
          have hv2 := Kd.R_lower hv HB.out.1.size
          have hb2 := below_then HB.out.1 HB.out.1.size hb
          have hb3 := below_then HB.out.2 HB.out.2.size hb
          obtain ⟨A8, c8, rfl⟩ := Kd.R_slice hv2
          have hrd := Kd.R_reads' hv2
          have HV2 := Aside0.mk (And.intro hb2 (And.intro hb3 (And.intro (Kd.C_below HC.out.2.2.2.1 hb) hrd)))
          clear hv hb hv2 hb2 hb3 hrd PT
          by_cases hz : e4 = 0
          · have q1 : (e4 == 0) = true := by simp [hz]
            have HZ := Aside0.mk hz
            clear hz
            go_wp2
            exact ⟨⟨k + 1, r.1, e4, A8, c8, r.1.length, by omega, by go_num, rfl, rfl, ⟨rfl, by rw [if_pos HZ.out, HST.out.2.1, if_pos (by rw [← HST.out.2.2]; exact HZ.out)], HST.out.1, HV2.out.2.2.2.2.2, HV2.out.2.2.2.2.1⟩, ⟨HV2.out.1, HV2.out.2.1⟩⟩, by simp [intOf]; omega⟩
          · have q1 : (e4 == 0) = false := by simp [hz]
            have HZ := Aside0.mk hz
            clear hz
            go_wp2
            exact ⟨⟨k + 1, cur, e4, A', c', n', by omega, by go_num, rfl, rfl, ⟨HC.out.1, by rw [if_neg HZ.out, HST.out.2.1, if_neg (by rw [← HST.out.2.2]; exact HZ.out), HST.out.2.2], HC.out.2.2.1, HV2.out.2.2.1, HC.out.2.2.2.2⟩, ⟨HV2.out.1, HV2.out.2.1⟩⟩, by simp [intOf]; omega⟩
        · have e9 : (f == 0) = false := by simp [hf]
          have hz0 : seqH l m = (cur, f) := by rw [HC.out.2.1, if_neg hf]
          have hE := holds_eq HMAY.out HX.out.2.2.2.2.1 (by rw [← HN.out.2]; omega) (by rw [← HN.out.2]; omega)
          rw [hz0, ← HRES.out] at hE
          have hg := holdP_good HX.out.2.2.2.2.1 m
          rw [← HRES.out] at hg
          by_cases hz : e0 = 0
          · have q1 : (e0 != 0) = false := by simp [hz]
            obtain ⟨hf0, hrr⟩ := hE.1 (by rw [← HE0.out]; exact hz)
            exact absurd hf0 hf
          · have q1 : (e0 != 0) = true := by simp [hz]
            have hf0 := hE.2 (by rw [← HE0.out]; exact hz)
            have ef : (f != 0) = true := by simp only at hf0; simp [hf0]
            have hnr : nr = 0 := by rw [HNR.out, hg.2.1 (by rw [← HE0.out]; exact hz)]; rfl
            have en : ((nr : Int) == 0) = true := by simp [hnr]
            clear hf hz0 hE hg hf0 hnr hz
            go_wp2
            go_ret
            exact ⟨rfl, HB.out.1⟩
      · have hkm : k = m1 := by omega
        subst k
        have hz0 : seqH l m = (cur, f) := by rw [HC.out.2.1]; exact seq_end (List.drop_of_length_le (by rw [← HN.out.2]; omega))
        have hE := holds_eq HMAY.out HX.out.2.2.2.2.1 (by rw [← HN.out.2]; omega) (by rw [← HN.out.2]; omega)
        rw [hz0, ← HRES.out] at hE
        have hg := holdP_good HX.out.2.2.2.2.1 m
        rw [← HRES.out] at hg
        by_cases hz : e0 = 0
        · have q1 : (e0 != 0) = false := by simp [hz]
          obtain ⟨hf0, hrr⟩ := hE.1 (by rw [← HE0.out]; exact hz)
          have ef : (f == 0) = true := by simp only at hf0; simp [hf0]
          have hcur : cur = res.1 := by rw [hrr]
          have hlen := (hg.1 (by rw [← HE0.out]; exact hz)).length
          have ps := fun nd => quartermasterref17_Same.calls 100 A9 c9 res.1 A' c' cur true (wr.drewN nd) (Kd.C_drewN (Kd.C_below HV.out.2.1 HB.out.2) nd) HV.out.2.2 (Kd.C_drewN HC.out.2.2.2.1 nd) HC.out.2.2.2.2 (by rw [hcur]; exact Pure.same_f (by omega) (by omega))
          rw [← HC.out.1, ← HNR.out] at ps
          have PS := Aside0.mk ps
          clear hz0 hE hg hf0 hrr hcur hlen hz ps
          go_wp2_with (go_at_call 12; refine (PS.out 0).mono ?_; rintro e w5 ⟨rfl, ⟨nd, rfl⟩⟩)
          go_ret
          exact ⟨rfl, pw_below_drewN HB.out.1 _⟩
        · have q1 : (e0 != 0) = true := by simp [hz]
          have hf0 := hE.2 (by rw [← HE0.out]; exact hz)
          have ef : (f != 0) = true := by simp only at hf0; simp [hf0]
          have hnr : nr = 0 := by rw [HNR.out, hg.2.1 (by rw [← HE0.out]; exact hz)]; rfl
          have en : ((nr : Int) == 0) = true := by simp [hnr]
          clear hz0 hE hg hf0 hnr hz
          go_wp2
          go_ret
          exact ⟨rfl, HB.out.1⟩
end Go.Proofs.Ytkhghabenhhhaaa.Stock
