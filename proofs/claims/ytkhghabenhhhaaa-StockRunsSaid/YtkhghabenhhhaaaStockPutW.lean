/- Stocks with another spot: the walk. No conditions beside those that the contract states. -/
import Derived.Test.YtkhghabenhhhaaaStockWith
namespace Go.Proofs.Ytkhghabenhhhaaa.Stock
open Go.RowKit Go.Proofs.Ytkhghabenhhhaaa.Pa Go.Proofs.YtkhghabenhhhaaaW.PrintWords Go.Proofs.YtkhghabenhhhaaaW.PrintLast Go.Proofs.YtkhghabenhhhaaaW.PrintMore Go.Proofs.Ytkhghabenhhhaaa.Sl
set_option linter.unusedVariables false
set_option linter.unusedSimpArgs false

/-- A fresh row of spots. -/
def FreshS (w : World) (l : List Spot) (e : Ending) (w' : World) : Prop := ∃ v, e = .returned v ∧ k37.R 37 w' w.heap.size (fun _ => True) v l ∧ Below w.heap.size w w'
/-- A store into a row of one's own. -/
theorem store_spot {w0 w : World} {g c base i : Nat} {l : List Spot} {ok : Nat → Prop} (s : Spot) (hR : k37.R 37 w base ok (.slice (some ⟨g, 0, none⟩) l.length c) l) (hi : i < l.length) (hB : Below base w0 w) (hbase : base ≤ g) :
    k37.R 37 ((((w.setCell ⟨g, i * 4, none⟩ (.int .i64 s.f0)).setCell ⟨g, i * 4 + 1, none⟩ (.int .i64 s.f1)).setCell ⟨g, i * 4 + 2, none⟩ (.int .i64 s.f2)).setCell ⟨g, i * 4 + 3, none⟩ (.int .i64 s.f3)) base (fun _ => True) (.slice (some ⟨g, 0, none⟩) l.length c) (l.take i ++ (s :: l.drop (i + 1))) ∧
      Below base w0 ((((w.setCell ⟨g, i * 4, none⟩ (.int .i64 s.f0)).setCell ⟨g, i * 4 + 1, none⟩ (.int .i64 s.f1)).setCell ⟨g, i * 4 + 2, none⟩ (.int .i64 s.f2)).setCell ⟨g, i * 4 + 3, none⟩ (.int .i64 s.f3)) := by
  refine ⟨?_, (((hB.setCell (p := ⟨g, i * 4, none⟩) hbase _).setCell (p := ⟨g, i * 4 + 1, none⟩) hbase _).setCell (p := ⟨g, i * 4 + 2, none⟩) hbase _).setCell (p := ⟨g, i * 4 + 3, none⟩) hbase _⟩
  have ho := R_flat hR
  obtain ⟨g', e, hbg, hrow⟩ := Rowed.of_own ho (by omega)
  injection e with e
  injection e with e
  subst e
  have hlen : (l.take i ++ (s :: l.drop (i + 1))).length = l.length := by rw [List.length_append, List.length_cons, List.length_take, List.length_drop]; omega
  have hc := hrow.room
  have h2 : Rowed 37 4 (w.setCells g (i * 4) (cells4 s)) g c l.length (flat (l.take i ++ (s :: l.drop (i + 1)))) := by
    refine hrow.stored i 1 l.length (cells4 s) rfl (by omega) (by omega) _ (by rw [flat_length, hlen]) (fun cur hcur hcl => ?_)
    have e1 : cur.take (i * 4) = flat (l.take i) := by
      have := congrArg (List.take (i * 4)) hcur
      rw [List.take_take, Nat.min_eq_left (by omega), flat_take] at this
      exact this
    have e2 : (cur.drop ((i + 1) * 4)).take ((l.length - (i + 1)) * 4) = flat (l.drop (i + 1)) := by
      have := congrArg (List.drop ((i + 1) * 4)) hcur
      rw [List.drop_take, flat_drop] at this
      rw [← this]
      congr 1
      omega
    have e3 : (cells4 s).length = 4 := rfl
    rw [flat_append, e1, e3, show i * 4 + 4 = (i + 1) * 4 by omega]
    show _ = flat (l.take i) ++ (cells4 s ++ flat (l.drop (i + 1)))
    rw [← e2, ← List.append_assoc, List.take_append, List.take_of_length_le (by rw [List.length_append, flat_length, List.length_take, e3]; omega)]
    congr 2
    rw [List.length_append, flat_length, List.length_take, e3]
    omega
  have h3 := flat_R (own_of (h2.own hbg) hlen.symm rfl)
  exact h3
set_option maxRecDepth 100000 in
set_option maxHeartbeats 16000000 in
theorem with_any (A : Option Addr) (c : Nat) (l : List Spot) (s : Spot) (w : World) (hC : Kd.C k37 w A l.length l) (hc : l.length ≤ c) (h : May l) (hp : pairB s.f0 s.f1 = true) :
    Calls Try.prog 44 #[.slice A l.length c, .agg #[.int .i64 s.f0, .int .i64 s.f1, .int .i64 s.f2, .int .i64 s.f3]] w (FreshS w (putS l s)) := by
  have hl := h.length
  have hw0 : Below w.heap.size w (w.alloc (.cells #[.int .i64 s.f0, .int .i64 s.f1, .int .i64 s.f2, .int .i64 s.f3] 37)) := (Below.refl _ _).alloc (Nat.le_refl _) _
  have p := find_any A c l s.f0 s.f1 _ (Kd.C_below hC hw0) (by omega)
  have HX := Aside0.mk (And.intro hC (And.intro hc (And.intro h (And.intro hp hl))))
  have HW := Aside0.mk hw0
  have hk := heap_alloc_new w (.cells #[.int .i64 s.f0, .int .i64 s.f1, .int .i64 s.f2, .int .i64 s.f3] 37)
  have HK := Aside0.mk hk
  obtain ⟨n, hn⟩ : ∃ n, n = l.length := ⟨_, rfl⟩
  have HN := Aside0.mk hn
  rw [← hn] at p hl ⊢
  clear hC hc h hp hw0 hk hn
  go_enter Try.func44, Try.ntmps44
  go_wp2_with fail
  go_at_call 49
  refine p.mono ?_
  rintro e w1 ⟨i, rfl, hf, hb⟩
  obtain ⟨hC, hc, h, hp, hl2⟩ := HX.out
  have hpl := hf.place h hp
  have hbl := below_then HW.out (by simp) hb
  have hk1 := (hb.block w.heap.size (by simp)).trans HK.out
  have pc := clone_any37 A c l w1 (Kd.C_below hC hbl) hc (by omega)
  obtain ⟨bb, hbb⟩ : ∃ bb, bb = foundB l s.f0 s.f1 i := ⟨_, rfl⟩
  rw [← hbb] at hpl ⊢
  rw [← HN.out] at pc
  have HY := Aside0.mk (And.intro hpl (And.intro hbl hk1))
  clear p hf hb hC hc h hp hl2 hpl hbl hk1 hbb
  obtain ⟨x0, x1, x2, x3, _, _, _, _⟩ := cells_of4 HY.out.2.2
  go_wp2_with fail
  go_at_call 52
  refine pc.mono ?_
  rintro e w2 ⟨v, rfl, hv, hb⟩
  have hb2 := below_then HY.out.2.1 HY.out.2.1.size hb
  have hv2 := Kd.R_lower hv HY.out.2.1.size
  have hk2 := (hb.block w.heap.size (Array.getElem?_eq_some_iff.1 HY.out.2.2).1).trans HY.out.2.2
  have HV := Aside0.mk (And.intro hv2 (And.intro hb2 hk2))
  clear pc hv hb hb2 hv2 hk2 x0 x1 x2 x3
  obtain ⟨x0, x1, x2, x3, _, _, _, _⟩ := cells_of4 HV.out.2.2
  cases bb with
  | true =>
    obtain ⟨hi, hdr, hk0, hk1⟩ := HY.out.1.here rfl
    by_cases hz : s.f2 = 0
    · have pd := delete_spot (w0 := w) v l i w.heap.size HV.out.1 hi HV.out.2.1.size HV.out.2.1
      have HP : Aside0 (putS l s = l.take i ++ l.drop (i + 1)) := ⟨by unfold putS; rw [if_pos hz, List.nil_append, HY.out.1.ahead, hdr]; rfl⟩
      have e0 : (s.f2 == 0) = true := beq_iff_eq.2 hz
      have hin : (i : Int) ≤ 64 := by rw [← HN.out] at hi; omega
      clear hz hi hdr hk0 hk1
      go_wp2_with fail
      go_at_call 53
      refine pd.mono ?_
      rintro e w3 ⟨v', rfl, hr, hb⟩
      have HR := Aside0.mk (And.intro hr hb)
      clear hr hb pd
      go_wp2
      go_ret
      exact ⟨_, rfl, by rw [HP.out]; exact HR.out.1, HR.out.2⟩
    · have hvv := HV.out.1
      obtain ⟨A2, c2, rfl⟩ := Kd.R_slice hvv
      have ho := R_flat hvv
      obtain ⟨g, rfl, hbg, hrow⟩ := Rowed.of_own ho (by omega)
      have hst := store_spot (w0 := w) s hvv hi HV.out.2.1 hbg
      have HP : Aside0 (putS l s = l.take i ++ (s :: l.drop (i + 1))) := ⟨by unfold putS; rw [if_neg hz, HY.out.1.ahead, hdr]; rfl⟩
      have HS := Aside0.mk hst
      have e0 : (s.f2 == 0) = false := beq_eq_false_iff_ne.2 hz
      have r0 := hrow.has (j := i * 4) (by have := hrow.room; omega)
      have r1 := hrow.has (j := i * 4 + 1) (by have := hrow.room; omega)
      have r2 := hrow.has (j := i * 4 + 2) (by have := hrow.room; omega)
      have r3 := hrow.has (j := i * 4 + 3) (by have := hrow.room; omega)
      obtain ⟨o0, q0⟩ := Option.isSome_iff_exists.1 r0.1
      obtain ⟨o1, q1⟩ := Option.isSome_iff_exists.1 r1.1
      obtain ⟨o2, q2⟩ := Option.isSome_iff_exists.1 r2.1
      obtain ⟨o3, q3⟩ := Option.isSome_iff_exists.1 r3.1
      have f0 := r0.2
      have f1 := r1.2
      have f2 := r2.2
      have f3 := r3.2
      have hin : (i : Int) < (n : Int) := by rw [HN.out]; omega
      rw [← HN.out] at HS ⊢
      clear hz hi hdr hk0 hk1 hvv ho hbg hrow hst r0 r1 r2 r3
      go_wp2
      go_ret
      exact ⟨_, rfl, by rw [HP.out]; exact HS.out.1, HS.out.2⟩
  | false =>
    obtain ⟨hdr, hg⟩ := HY.out.1.gone rfl
    have hin := HY.out.1.le
    have happ : l = l.take i ++ l.drop i := (List.take_append_drop i l).symm
    by_cases hz : s.f2 = 0
    · have HP : Aside0 (putS l s = l) := ⟨by unfold putS; rw [if_pos hz, List.nil_append]; conv => rhs; rw [happ, HY.out.1.ahead, hdr]
                                             rfl⟩
      have e0 : (s.f2 == 0) = true := beq_iff_eq.2 hz
      clear hz hdr hg happ hin
      go_wp2
      go_ret
      exact ⟨_, rfl, by rw [HP.out]; exact HV.out.1, HV.out.2.1⟩
    · have HP : Aside0 (putS l s = l.take i ++ (s :: l.drop i)) := ⟨by unfold putS; rw [if_neg hz, HY.out.1.ahead, hdr]; rfl⟩
      have e0 : (s.f2 == 0) = false := beq_eq_false_iff_ne.2 hz
      have hvb : v.ownBlock ≠ some w2.heap.size := fun e => by have := Kd.R_lt HV.out.1 _ e; omega
      have pi := insert_spot (w0 := w) v l i w2.heap.size s w.heap.size (Kd.R_alloc HV.out.1 _) (heap_alloc_new w2 _) hin (by rw [← HN.out]; omega) (by simp; have := HV.out.2.1.size; omega) hvb (HV.out.2.1.alloc HV.out.2.1.size _)
      clear hz hdr hg happ hin hvb
      go_wp2_with fail
      go_at_call 54
      refine pi.mono ?_
      rintro e w3 ⟨v', rfl, hr, hb⟩
      have HR := Aside0.mk (And.intro hr hb)
      clear hr hb pi
      go_wp2
      go_ret
      exact ⟨_, rfl, by rw [HP.out]; exact HR.out.1, HR.out.2⟩
end Go.Proofs.Ytkhghabenhhhaaa.Stock
