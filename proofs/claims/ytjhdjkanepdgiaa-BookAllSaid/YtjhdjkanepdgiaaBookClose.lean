/- book.Close: the walk. No conditions beside those that the contract states. -/
import Derived.Test.YtjhdjkanepdgiaaBookDelF
namespace Go.Proofs.Ytjhdjkanepdgiaa.Book
open Go Go.RowKit Go.Proofs.Ytjhdjkanepdgiaa.Pa Go.Proofs.Ytjhdjkanepdgiaa.Pb Go.Proofs.YtjhdjkanepdgiaaW.PrintWords Go.Proofs.YtjhdjkanepdgiaaW.PrintLast Go.Proofs.YtjhdjkanepdgiaaW.PrintMore Go.Proofs.Ytjhdjkanepdgiaa.Sl
set_option linter.unusedVariables false
set_option linter.unusedSimpArgs false

theorem found_any (id : Int) (A : Option Addr) (c : Nat) (l : List Booking) (w : World) (hC : Kd.C k25 w A l.length l) (hc : l.length ≤ c) (hl : l.length ≤ 999999999) :
    Calls Try.prog 28 #[.slice A l.length c, .int .i64 id] w fun e w' => ∃ v, e = .returned (.tuple #[v, .int .i64 (foundP l id).2.1, .int .i64 (foundP l id).2.2]) ∧ Kd.S k25 25 w' w.heap.size (fun _ => True) v (foundP l id).1 ∧ Below w.heap.size w w' :=
  book_found.calls (l.length + 1) A c l id _ _ _ w hC hc (found_f id hl (Nat.lt_succ_self _))
theorem foundP_zero {l : List Booking} {id : Int} (h : (foundP l id).2.2 = 0) : MayL l ∧ ∃ i : Nat, i < l.length ∧ idxB id l = (i : Int) ∧ foundP l id = (l, (i : Int), 0) := by
  unfold foundP at h ⊢
  by_cases hm : mayB l = true
  · rw [if_pos hm] at h ⊢
    by_cases hi : idxB id l < 0
    · rw [if_pos hi] at h; cases h
    · rw [if_neg hi]
      rcases idx_range id l with h1 | ⟨i, h1, h2, _⟩
      · omega
      · exact ⟨mayB_iff.1 hm, i, h2, h1, by rw [h1]⟩
  · rw [if_neg hm] at h; cases h
theorem S_at {w : World} {base g cap : Nat} {ok : Nat → Prop} {l : List Booking} (h : Kd.S k25 25 w base ok (.slice (some ⟨g, 0, none⟩) l.length cap) l) {i : Nat} (hi : i < l.length) :
    ∃ v, w.cell? ⟨g, i * 3 + 2, none⟩ = some v ∧ k33.R 33 w base (fun k => ok k ∧ k ≠ g) v l[i].f2 := by
  obtain ⟨c, _, hM, hcell⟩ := Kd.S_get h z25 (i : Int) (by omega) (by omega)
  obtain ⟨v, rfl, hv⟩ := k25_openM hM
  have hx : l.getD (i : Int).toNat z25 = l[i] := by simp [hi]
  rw [hx] at hv
  refine ⟨v, ?_, Kd.R_mono hv (fun k hk => ⟨hk.1, fun e => hk.2 (by rw [e]; simp [Value.ownBlock])⟩)⟩
  have := hcell 2 v rfl
  rw [add_at, Nat.zero_add, Int.toNat_natCast] at this
  exact this
/-- What is left of a booking, and of the bookings, when one is closed. -/
def closeP (l : List Booking) (id : Int) : List Booking × List Line × Int :=
  if (foundP l id).2.2 = 0 then (l.eraseIdx (idxB id l).toNat, (rd_T25 l (idxB id l)).f2.filter openL, 0) else ([], [], (foundP l id).2.2)
def ClosePost (w : World) (r : List Booking × List Line × Int) (e : Ending) (w' : World) : Prop :=
  ∃ v0 v1 : Value, e = .returned (.tuple #[v0, v1, .int .i64 r.2.2]) ∧ Kd.S k25 25 w' w.heap.size (fun k => some k ≠ (v1 : Value).ownBlock) v0 r.1 ∧ Kd.R k33 33 w' w.heap.size (fun _ => True) v1 r.2.1 ∧ Below w.heap.size w w'
set_option maxRecDepth 100000 in
set_option maxHeartbeats 8000000 in
theorem close_any (id : Int) (A : Option Addr) (c : Nat) (l : List Booking) (w : World) (hC : Kd.C k25 w A l.length l) (hc : l.length ≤ c) (hl : l.length ≤ 999999999) :
    Calls Try.prog 13 #[.slice A l.length c, .int .i64 id] w (ClosePost w (closeP l id)) := by
  have pf := found_any id A c l w hC hc hl
  obtain ⟨r, hr⟩ : ∃ r, r = closeP l id := ⟨_, rfl⟩
  rw [← hr]
  obtain ⟨n, hn⟩ : ∃ n, n = l.length := ⟨_, rfl⟩
  by_cases h0 : (foundP l id).2.2 = 0
  · obtain ⟨hm, i, hi, hix, hf⟩ := foundP_zero h0
    rw [hf] at pf
    simp only at pf
    have hr2 : r = (l.eraseIdx i, (rd_T25 l (i : Int)).f2.filter openL, 0) := by rw [hr]; unfold closeP; rw [if_pos h0, hix]; simp
    have HX := Aside0.mk (And.intro hr2 (And.intro hm (And.intro hi hn)))
    rw [← hn] at pf ⊢
    have hni : i < n := by omega
    have hn8 : n ≤ 8 := by have := hm.2.2; omega
    clear hC hc hl hr h0 hm hix hf hr2 hn hi
    go_enter Try.func13, Try.ntmps13
    go_wp2_with fail
    go_at_call 28
    refine pf.mono ?_
    rintro e w1 ⟨v, rfl, hS, hb⟩
    have hS2 := Kd.S_mono (Kd.S_bound hS) (ok' := fun k => k < w1.heap.size) (fun k hk => hk.2.2.1)
    obtain ⟨g, cap, hv, hbg, hgl, _⟩ := Kd.S_form hS2 (by have := HX.out.2.2.1; omega)
    subst hv
    obtain ⟨v2, hcell, hv2⟩ := S_at hS2 HX.out.2.2.1
    obtain ⟨A2, c2, hv2e, hc2, hC2⟩ := Kd.R_reads hv2
    subst hv2e
    have hlen := one_len (HX.out.2.1.1 _ (List.getElem_mem HX.out.2.2.1))
    have pc := clone_any33 A2 c2 _ w1 hC2 hc2 (by omega)
    have hcap : l.length ≤ cap := (Kd.S_reads' hS2).2.1
    have HS := Aside0.mk (And.intro hS2 (And.intro hb hlen))
    rw [← HX.out.2.2.2]
    obtain ⟨m, hmm⟩ : ∃ m, m = (l[i]'HX.out.2.2.1).f2.length := ⟨_, rfl⟩
    rw [← hmm] at pc hcell
    clear hS hS2 hv2 hC2 hlen hb pf hmm hbg hcap
    go_wp2_with fail
    go_at_call 33
    refine pc.mono ?_
    rintro e w2 ⟨v3, rfl, hv3, hb2⟩
    have pd := deleteF_R v3 _ w1.heap.size hv3 (by have := HS.out.2.2; omega) (by have := HS.out.2.2; omega) hb2
    clear pc hv3 hb2
    go_wp2_with fail
    go_at_call 32
    refine pd.mono ?_
    rintro e w3 ⟨v4, rfl, hv4, hb3⟩
    have hS3 := Kd.S_below HS.out.1 hb3
    have hb4 : Below w.heap.size w w3 := HS.out.2.1.trans (hb3.mono HS.out.2.1.size)
    have pp := delete_S (w0 := w) _ l i w.heap.size hS3 HX.out.2.2.1 hb4
    rw [← HX.out.2.2.2] at pp
    have H4 := Aside0.mk (And.intro hv4 hgl)
    have ei : ((i + 1 : Nat) : Int) = (i : Int) + 1 := by omega
    rw [ei] at pp
    clear pd hv4 hb3 hb4 hS3 hcell hgl ei
    go_wp2_with fail
    go_at_call 31
    refine pp.mono ?_
    rintro e w4 ⟨v5, rfl, hv5, hb5, hg5⟩
    have H5 := Aside0.mk (And.intro hv5 (And.intro hb5 hg5))
    clear pp hv5 hb5 hg5
    go_wp2
    refine bodyPost_ret (results_tmp3 rfl _ _ _) rfl ?_
    have hv4b := Kd.R_bound H4.out.1
    refine ⟨v5, v4, ?_, ?_, ?_, H5.out.2.1⟩
    · rw [HX.out.1]; rfl
    · rw [HX.out.1]
      refine Kd.S_mono H5.out.1 (fun k hk e => ?_)
      have := (hv4b.1 k e.symm).2.1
      omega
    · rw [HX.out.1, rdB HX.out.2.2.1]
      refine Kd.R_lower (base := w1.heap.size) (Kd.R_mono (Kd.R_grown hv4b H5.out.2.2 (fun k hk e => ?_)) (fun _ _ => trivial)) HS.out.2.1.size
      have h1 := hk.2.1
      have h2 : k = g := by simpa [Value.ownBlock] using e
      have := H4.out.2
      omega
  · have hr2 : r = ([], [], (foundP l id).2.2) := by rw [hr]; unfold closeP; rw [if_neg h0]
    obtain ⟨E, hE⟩ : ∃ E, E = (foundP l id).2.2 := ⟨_, rfl⟩
    obtain ⟨i, hi⟩ : ∃ i, i = (foundP l id).2.1 := ⟨_, rfl⟩
    rw [← hE] at pf hr2 h0
    rw [← hi] at pf
    have HX := Aside0.mk hr2
    have e1 : (E != 0) = true := by simp [h0]
    rw [← hn] at pf ⊢
    clear hC hc hl hr h0 hr2 hn hE hi
    go_enter Try.func13, Try.ntmps13
    go_wp2_with (go_at_call 28; refine pf.mono ?_; rintro e w1 ⟨v, rfl, hS, hb⟩; have HB := Aside0.mk hb; clear hb hS)
    refine bodyPost_ret (results_tmp3 rfl _ _ _) rfl ?_
    refine ⟨.slice none 0 0, .slice none 0 0, ?_, ?_, ?_, HB.out⟩
    · rw [HX.out]; rfl
    · rw [HX.out]; exact Kd.S_nil _ _ _ _ _
    · rw [HX.out]; exact Kd.R_nil _ _ _ _ _
end Go.Proofs.Ytjhdjkanepdgiaa.Book
