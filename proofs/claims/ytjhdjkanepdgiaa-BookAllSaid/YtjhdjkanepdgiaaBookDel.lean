/- slices.Delete of one booking out of bookings of the call's own. No conditions beside those that the contract states. -/
import Derived.Test.YtjhdjkanepdgiaaBookPlain
import Derived.Test.YtjhdjkanepdgiaaSlDelete
namespace Go.Proofs.Ytjhdjkanepdgiaa.Book
open Go Go.RowKit Go.Proofs.Ytjhdjkanepdgiaa.Pa Go.Proofs.YtjhdjkanepdgiaaW.PrintWords Go.Proofs.YtjhdjkanepdgiaaW.PrintLast Go.Proofs.YtjhdjkanepdgiaaW.PrintMore Go.Proofs.Ytjhdjkanepdgiaa.Sl
set_option linter.unusedVariables false
set_option linter.unusedSimpArgs false

theorem R_rowed {α : Type} {d : Kd α} {e : Nat} {w : World} {base n cap : Nat} {ok : Nat → Prop} {A : Option Addr} {xs : List α} (h : d.R e w base ok (.slice A n cap) xs) (hn : 0 < n) (hs0 : 0 < d.sz) :
    n = xs.length ∧ ∃ g inner, A = some ⟨g, 0, none⟩ ∧ base ≤ g ∧ Rowed e d.sz w g cap n inner ∧ Reps (d.M w base (fun k => ok k ∧ k ≠ g)) d.sz xs inner ∧ (∀ u ∈ inner, u.oneCell' = true) ∧ ok g := by
  have hn2 := (Kd.R_reads' h).1
  obtain ⟨h0, inner, ho, hr⟩ := h
  rw [← hn2] at ho
  obtain ⟨g, rfl, hb, hR⟩ := Rowed.of_own ho hn
  refine ⟨hn2, g, inner, rfl, hb, hR, hr.imp_ (fun p c hp => d.M_mono (fun k hk => ⟨hk.1, fun e => hk.2 (by rw [e]; simp [Value.ownBlock])⟩) hp), Kd.reps_one hr hs0 (fun p c hp => d.K_one (d.K_of_M hp)), h0 g (by simp [Value.ownBlock])⟩
theorem R_of_rowed {α : Type} {d : Kd α} {e g : Nat} {w : World} {base cap : Nat} {ok : Nat → Prop} {xs : List α} {inner : List Value} (hb : base ≤ g) (h : Rowed e d.sz w g cap xs.length inner) (hr : Reps (d.M w base (fun k => ok k ∧ k ≠ g)) d.sz xs inner) (hg : ok g) : d.R e w base ok (.slice (some ⟨g, 0, none⟩) xs.length cap) xs :=
  ⟨fun k hk => by simp [Value.ownBlock] at hk; subst hk; exact hg, inner, h.own hb, hr.imp_ (fun p c hp => d.M_mono (fun k hk => ⟨hk.1, fun e => hk.2 (by simpa [Value.ownBlock] using e)⟩) hp)⟩
theorem delete_S {w0 w : World} (v : Value) (l : List Booking) (i : Nat) (base : Nat) {ok : Nat → Prop} (hS : Kd.S k25 25 w base ok v l) (hi : i < l.length) (hB : Below base w0 w) :
    Calls Try.prog 31 #[v, .int .i64 i, .int .i64 (i + 1 : Nat)] w fun e w' => ∃ v', e = .returned v' ∧ Kd.S k25 25 w' base ok v' (l.eraseIdx i) ∧ Below base w0 w' ∧ w.grownBy w' v.ownBlock := by
  obtain ⟨A, c, hv⟩ := Kd.S_slice hS
  subst hv
  obtain ⟨f, hR⟩ := hS
  obtain ⟨hl, g, inner, rfl, hbg, hrow, hreps, hone, hok⟩ := R_rowed hR (by omega) (show 0 < (Kd.tag f k25).sz from Nat.succ_pos 2)
  obtain ⟨m, hm⟩ : ∃ m, l.length = i + 1 + m := ⟨l.length - i - 1, by omega⟩
  have hrow2 : Rowed 25 3 w g c (i + 1 + m) inner := by rw [← hm]; exact hrow
  rw [hm]
  refine (delete_any25 g c i m inner w hrow2 hone).mono ?_
  rintro e w' ⟨rfl, hr, hw⟩
  have hel : (l.zipIdx.eraseIdx i).length = i + m := by rw [List.length_eraseIdx_of_lt (by rw [List.length_zipIdx]; omega), List.length_zipIdx]; omega
  have hRR : (Kd.tag f k25).R 25 w' base ok (.slice (some ⟨g, 0, none⟩) (l.zipIdx.eraseIdx i).length c) (l.zipIdx.eraseIdx i) := by
    refine R_of_rowed hbg (by rw [hel]; exact hr) ?_ hok
    have h1 : Reps ((Kd.tag f k25).M w base (fun k => ok k ∧ k ≠ g)) 3 (l.zipIdx.take i ++ l.zipIdx.drop (i + 1)) (inner.take (i * 3) ++ inner.drop ((i + 1) * 3)) :=
      Kd.reps_append (Kd.reps_take hreps (by rw [List.length_zipIdx]; omega)) (Kd.reps_drop hreps)
    rw [List.eraseIdx_eq_take_drop_succ]
    exact h1.imp_ (fun p cs hp => (Kd.tag f k25).M_mono (fun k hk => hk.1) ((Kd.tag f k25).M_move (w1 := w') (fun k hk => hw.kept.2 k hk.2.2.1 (fun e => hk.1.2 e)) ((Kd.tag f k25).M_bound hp)))
  rw [hel] at hRR
  refine ⟨_, rfl, Kd.S_erase hRR, hw.below hB (Nat.le_trans hbg (Nat.le_of_lt hrow2.lt)) (fun k hk => by subst hk; exact hbg), ⟨hw.os, hw.tape, hw.output, hw.size, fun k hk hne => hw.kept.2 k hk (fun e => hne (by rw [e]; simp [Value.ownBlock]))⟩⟩
end Go.Proofs.Ytjhdjkanepdgiaa.Book
