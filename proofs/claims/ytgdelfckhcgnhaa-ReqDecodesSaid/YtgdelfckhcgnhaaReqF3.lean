/- req: how fields are gone through, any kind. No conditions beside those that each contract states. -/
import Derived.Test.YtgdelfckhcgnhaaReqF2
namespace Go.Proofs.Ytgdelfckhcgnhaa.Code
open Go.RowKit Go.Proofs.Ytgdelfckhcgnhaa.Pa Go.Proofs.YtgdelfckhcgnhaaW.PrintWords Go.Proofs.YtgdelfckhcgnhaaW.PrintLast Go.Proofs.YtgdelfckhcgnhaaW.PrintMore
attribute [local go_sem] Way.eF Way.eW Way.eL Way.eE
set_option linter.unusedVariables false
set_option linter.unusedSimpArgs false

/-- What is done to fields, without the program. -/
structure Do (σ : Type) where
  num : σ → Int → σ × Int
  whole : σ → Int → σ × Int
  lin : σ → List S93 → σ × List S93
  ent : σ → List S76 → σ × List S76
def Way.plain {w0 : World} (Y : Way w0) : Do Y.σ := ⟨Y.num, Y.whole, Y.lin, Y.ent⟩
variable {σ : Type}
def Do.step (D : Do σ) (p : σ × List Int) (i : Nat) : σ × List Int := ((D.num p.1 (p.2.getD i 0)).1, p.2.set i (D.num p.1 (p.2.getD i 0)).2)
def Do.stepW (D : Do σ) (p : σ × List Int) (i : Nat) : σ × List Int := ((D.whole p.1 (p.2.getD i 0)).1, p.2.set i (D.whole p.1 (p.2.getD i 0)).2)
def Do.steps (D : Do σ) (idx : List Nat) (s : σ) (ns : List Int) : σ × List Int := idx.foldl D.step (s, ns)
def Do.fields (D : Do σ) (k : Int) (s : σ) (ns : List Int) (L : List S93) : (σ × List Int) × List S93 :=
  if k = 1 then (D.step (D.steps [1, 2, 3] s ns) 5, L) else
  if k = 2 then (D.stepW (D.steps [1, 2, 3] s ns) 5, L) else
  if k = 3 then (D.steps [1, 2, 3, 4, 5] s ns, L) else
  if k = 4 then (((D.lin (D.steps [1, 8] s ns).1 L).1, (D.steps [1, 8] s ns).2), (D.lin (D.steps [1, 8] s ns).1 L).2) else
  if k = 5 then (D.steps [1, 6, 7, 5] s ns, L) else
  if k = 6 then (D.steps [1, 6] s ns, L) else
  if k = 7 then (D.steps [8] s ns, L) else
  if k = 8 then (D.steps [2, 3] s ns, L) else
  if k = 9 then (D.steps [6] s ns, L) else
  if k = 10 then (D.steps [8] s ns, L) else ((s, ns), L)

set_option maxRecDepth 100000 in
set_option maxHeartbeats 16000000 in
theorem fields_none {w0 : World} (Y : Way w0) {W : World} {T : List Thing} {rb : Nat} {s : Y.σ} {ns : List Int} {v : Value} (h : Sit w0 W (Y.H s ++ .blk rb (.cells (cs26 ns v) 26 (0, 0)) :: T)) (hn : ns.length = 9) (hk : ¬ (1 ≤ ns.getD 0 0 ∧ ns.getD 0 0 ≤ 10)) :
    Calls Try.prog 24 #[.pointer (some ⟨rb, 0, none⟩), .agg (wayC Y.nf Y.nw Y.nl Y.ne Y.q)] W fun e' w' => e' = .returned (.bool false) ∧ Sit w0 w' (Y.H s ++ .blk rb (.cells (cs26 ns v) 26 (0, 0)) :: T) := by
  have hA := h.skip (.cells (wayC Y.nf Y.nw Y.nl Y.ne Y.q) 58)
  obtain ⟨k0, -⟩ := sit_cell (i := 0) hA.hd (cs26_at (by omega))
  obtain ⟨K, hK⟩ : ∃ K, K = ns.getD 0 0 := ⟨_, rfl⟩
  rw [← hK] at k0 hk
  have HA := Aside0.mk hA
  have p1 : (K == 1) = false := by rw [beq_eq_false_iff_ne]; omega
  have p2 : (K == 2) = false := by rw [beq_eq_false_iff_ne]; omega
  have p3 : (K == 3) = false := by rw [beq_eq_false_iff_ne]; omega
  have p4 : (K == 4) = false := by rw [beq_eq_false_iff_ne]; omega
  have p5 : (K == 5) = false := by rw [beq_eq_false_iff_ne]; omega
  have p6 : (K == 6) = false := by rw [beq_eq_false_iff_ne]; omega
  have p7 : (K == 7) = false := by rw [beq_eq_false_iff_ne]; omega
  have p8 : (K == 8) = false := by rw [beq_eq_false_iff_ne]; omega
  have p9 : (K == 9) = false := by rw [beq_eq_false_iff_ne]; omega
  have p10 : (K == 10) = false := by rw [beq_eq_false_iff_ne]; omega
  clear h hA hn hk hK
  go_enter Try.func24, Try.ntmps24
  go_wp2
  go_ret
  exact ⟨rfl, HA.out⟩
/-- What is told of the fields behind it. -/
def FieldsTold {w0 : World} (Y : Way w0) (T : List Thing) (rb : Nat) (s : Y.σ) (ns : List Int) (v : Value) (L : List S93) (w' : World) : Prop :=
  (ns.getD 0 0 ≠ 4 → Sit w0 w' (Y.H (Y.plain.fields (ns.getD 0 0) s ns L).1.1 ++ .blk rb (.cells (cs26 (Y.plain.fields (ns.getD 0 0) s ns L).1.2 v) 26 (0, 0)) :: T)) ∧
  (ns.getD 0 0 = 4 → ∃ v', Sit w0 w' (Y.H (Y.plain.fields (ns.getD 0 0) s ns L).1.1 ++ .blk rb (.cells (cs26 (Y.plain.fields (ns.getD 0 0) s ns L).1.2 v') 26 (0, 0)) :: row93 v' (Y.plain.fields (ns.getD 0 0) s ns L).2 :: T))
def okKind (k : Int) : Bool := decide (1 ≤ k ∧ k ≤ 10)
theorem fields_any {w0 : World} (Y : Way w0) {W : World} {T : List Thing} {rb : Nat} {s : Y.σ} {ns : List Int} {v : Value} {L : List S93} (h : Sit w0 W (Y.H s ++ .blk rb (.cells (cs26 ns v) 26 (0, 0)) :: T)) (hn : ns.length = 9) (hr : ∀ x ∈ ns, Y.inr x) (hok : Y.ok 6 s) (hp : Y.pre v L) :
    Calls Try.prog 24 #[.pointer (some ⟨rb, 0, none⟩), .agg (wayC Y.nf Y.nw Y.nl Y.ne Y.q)] W fun e' w' => e' = .returned (.bool (okKind (ns.getD 0 0))) ∧ FieldsTold Y T rb s ns v L w' := by
  by_cases hk : 1 ≤ ns.getD 0 0 ∧ ns.getD 0 0 ≤ 10
  · have ho : okKind (ns.getD 0 0) = true := decide_eq_true hk
    rw [ho]
    by_cases h1 : ns.getD 0 0 = 1
    · refine (fields_1 Y h hn h1 hr hok).mono ?_
      rintro e' w' ⟨he, hs⟩
      refine ⟨he, fun _ => ?_, fun h4 => by omega⟩
      unfold Do.fields
      rw [if_pos h1]
      exact hs
    by_cases h2 : ns.getD 0 0 = 2
    · refine (fields_2 Y h hn h2 hr hok).mono ?_
      rintro e' w' ⟨he, hs⟩
      refine ⟨he, fun _ => ?_, fun h4 => by omega⟩
      unfold Do.fields
      rw [if_neg h1, if_pos h2]
      exact hs
    by_cases h3 : ns.getD 0 0 = 3
    · refine (fields_3 Y h hn h3 hr hok).mono ?_
      rintro e' w' ⟨he, hs⟩
      refine ⟨he, fun _ => ?_, fun h4 => by omega⟩
      unfold Do.fields
      rw [if_neg h1, if_neg h2, if_pos h3]
      exact hs
    by_cases h4 : ns.getD 0 0 = 4
    · refine (fields_4 Y h hn h4 hr hok hp).mono ?_
      rintro e' w' ⟨he, v', hs⟩
      refine ⟨he, fun hx => absurd h4 hx, fun _ => ⟨v', ?_⟩⟩
      unfold Do.fields
      rw [if_neg h1, if_neg h2, if_neg h3, if_pos h4]
      exact hs
    by_cases h5 : ns.getD 0 0 = 5
    · refine (fields_5 Y h hn h5 hr hok).mono ?_
      rintro e' w' ⟨he, hs⟩
      refine ⟨he, fun _ => ?_, fun h4 => by omega⟩
      unfold Do.fields
      rw [if_neg h1, if_neg h2, if_neg h3, if_neg h4, if_pos h5]
      exact hs
    by_cases h6 : ns.getD 0 0 = 6
    · refine (fields_6 Y h hn h6 hr hok).mono ?_
      rintro e' w' ⟨he, hs⟩
      refine ⟨he, fun _ => ?_, fun h4 => by omega⟩
      unfold Do.fields
      rw [if_neg h1, if_neg h2, if_neg h3, if_neg h4, if_neg h5, if_pos h6]
      exact hs
    by_cases h7 : ns.getD 0 0 = 7
    · refine (fields_7 Y h hn h7 hr hok).mono ?_
      rintro e' w' ⟨he, hs⟩
      refine ⟨he, fun _ => ?_, fun h4 => by omega⟩
      unfold Do.fields
      rw [if_neg h1, if_neg h2, if_neg h3, if_neg h4, if_neg h5, if_neg h6, if_pos h7]
      exact hs
    by_cases h8 : ns.getD 0 0 = 8
    · refine (fields_8 Y h hn h8 hr hok).mono ?_
      rintro e' w' ⟨he, hs⟩
      refine ⟨he, fun _ => ?_, fun h4 => by omega⟩
      unfold Do.fields
      rw [if_neg h1, if_neg h2, if_neg h3, if_neg h4, if_neg h5, if_neg h6, if_neg h7, if_pos h8]
      exact hs
    by_cases h9 : ns.getD 0 0 = 9
    · refine (fields_9 Y h hn h9 hr hok).mono ?_
      rintro e' w' ⟨he, hs⟩
      refine ⟨he, fun _ => ?_, fun h4 => by omega⟩
      unfold Do.fields
      rw [if_neg h1, if_neg h2, if_neg h3, if_neg h4, if_neg h5, if_neg h6, if_neg h7, if_neg h8, if_pos h9]
      exact hs
    have h10 : ns.getD 0 0 = 10 := by omega
    refine (fields_10 Y h hn h10 hr hok).mono ?_
    rintro e' w' ⟨he, hs⟩
    refine ⟨he, fun _ => ?_, fun h4 => by omega⟩
    unfold Do.fields
    rw [if_neg h1, if_neg h2, if_neg h3, if_neg h4, if_neg h5, if_neg h6, if_neg h7, if_neg h8, if_neg h9, if_pos h10]
    exact hs
  · have ho : okKind (ns.getD 0 0) = false := decide_eq_false hk
    rw [ho]
    refine (fields_none Y h hn hk).mono ?_
    rintro e' w' ⟨he, hs⟩
    refine ⟨he, fun _ => ?_, fun h4 => by omega⟩
    unfold Do.fields
    rw [if_neg (by omega), if_neg (by omega), if_neg (by omega), if_neg (by omega), if_neg (by omega), if_neg (by omega), if_neg (by omega), if_neg (by omega), if_neg (by omega), if_neg (by omega)]
    exact hs

/-! #### What is written, and what is read -/
def Do.w : Do (Bool × List Int) := ⟨fun s x => (putN s x, 0), fun s x => (putI s x, 0), fun s L => (putLines s L, []), fun s L => (putEntries s L, [])⟩
def Do.r : Do (Bool × List Int) := ⟨fun s _ => (getN s, (getNum s.2).v), fun s _ => (getI s, (getInt s.2).v), fun s _ => getLines s, fun s _ => getEntrys s⟩
theorem R_93 {w : World} {base : Nat} {ok : Nat → Prop} {v : Value} {L : List S93} (h : w.ownsRow base 93 3 v L.length (flat93 L)) (hk : ∀ k, v.ownBlock = some k → ok k) : Kd.R k93 93 w base ok v L := by
  refine ⟨hk, flat93 L, h, ?_⟩
  have : ∀ L : List S93, Reps (k93.M w base (fun k => ok k ∧ some k ≠ v.ownBlock)) 3 L (flat93 L) := fun L => by
    induction L with
    | nil => exact Reps.none _ _
    | cons x r ih => exact Reps.front (c := cells93 x) (k93_mkM w base _ x) rfl ih rfl
  exact this L
theorem R_76 {w : World} {base : Nat} {ok : Nat → Prop} {v : Value} {L : List S76} (h : w.ownsRow base 76 4 v L.length (flat76 L)) (hk : ∀ k, v.ownBlock = some k → ok k) : Kd.R k76 76 w base ok v L := by
  refine ⟨hk, flat76 L, h, ?_⟩
  have : ∀ L : List S76, Reps (k76.M w base (fun k => ok k ∧ some k ≠ v.ownBlock)) 4 L (flat76 L) := fun L => by
    induction L with
    | nil => exact Reps.none _ _
    | cons x r ih => exact Reps.front (c := cells76 x) (k76_mkM w base _ x) rfl ih rfl
  exact this L
theorem own_lift {w : World} {base b e size n : Nat} {v : Value} {xs : List Value} (h : w.ownsRow b e size v n xs) (hk : ∀ k, v.ownBlock = some k → base ≤ k) : w.ownsRow base e size v n xs := by
  obtain ⟨h1, h2⟩ := h
  refine ⟨h1, ?_⟩
  rcases h2 with h2 | ⟨g, cap, cur, rfl, hg, hh⟩
  · exact .inl h2
  · exact .inr ⟨g, cap, cur, rfl, hk g (by simp [Value.ownBlock]), hh⟩
theorem Sit.row93R {w0 W : World} {T : List Thing} {v : Value} {L : List S93} (h : Sit w0 W (row93 v L :: T)) : Kd.R k93 93 W w0.heap.size (fun _ => True) v L := by
  obtain ⟨hb, F, k1, k2, k3⟩ := h
  exact R_93 (own_lift k1.1 (fun k hk => (k2 k (k1.2 k hk)).1)) (fun _ _ => trivial)
theorem Sit.row76R {w0 W : World} {T : List Thing} {v : Value} {L : List S76} (h : Sit w0 W (row76 v L :: T)) : Kd.R k76 76 W w0.heap.size (fun _ => True) v L := by
  obtain ⟨hb, F, k1, k2, k3⟩ := h
  exact R_76 (own_lift k1.1 (fun k hk => (k2 k (k1.2 k hk)).1)) (fun _ _ => trivial)
/-- Two rows of their own. -/
theorem Sit.rows2 {w0 W : World} {T : List Thing} {v u : Value} {L : List S93} {K : List S76} (h : Sit w0 W (row93 v L :: row76 u K :: T)) : Kd.R k93 93 W w0.heap.size (fun k_ => some k_ ≠ u.ownBlock) v L ∧ Kd.R k76 76 W w0.heap.size (fun _ => True) u K := by
  refine ⟨?_, h.tail.row76R⟩
  obtain ⟨hb, F, k1, k2, G, k3, k4, k5⟩ := h
  refine R_93 (own_lift k1.1 (fun k hk => (k2 k (k1.2 k hk)).1)) (fun k hk e => ?_)
  exact (k4 k (k3.2 k e.symm)).2.2 (.inr (k1.2 k hk))
theorem fieldsW {w0 W : World} {T : List Thing} {q rb c : Nat} {s : Bool × List Int} {ns : List Int} {A : Option Addr} {L : List S93} (h : Sit w0 W (.out s.1 q s.2 :: .blk rb (.cells (cs26 ns (.slice A L.length c)) 26 (0, 0)) :: T)) (hC : Kd.C k93 w0 A L.length L) (hc : L.length ≤ c) (hL : ∀ y ∈ L, Lim3 y) (hl : L.length ≤ 20) (hn : ns.length = 9) (hr : ∀ x ∈ ns, -9223372036854775808 ≤ x ∧ x < 9223372036854775808) (hs : s.2.length ≤ 100000) :
    Calls Try.prog 24 #[.pointer (some ⟨rb, 0, none⟩), .agg (wayC 29 52 53 54 q)] W fun e' w' => e' = .returned (.bool (okKind (ns.getD 0 0))) ∧ ∃ A' c', (Do.w.fields (ns.getD 0 0) s ns L).2.length ≤ c' ∧ Kd.C k93 w' A' (Do.w.fields (ns.getD 0 0) s ns L).2.length (Do.w.fields (ns.getD 0 0) s ns L).2 ∧ Sit w0 w' (.out (Do.w.fields (ns.getD 0 0) s ns L).1.1.1 q (Do.w.fields (ns.getD 0 0) s ns L).1.1.2 :: .blk rb (.cells (cs26 (Do.w.fields (ns.getD 0 0) s ns L).1.2 (.slice A' (Do.w.fields (ns.getD 0 0) s ns L).2.length c')) 26 (0, 0)) :: T) := by
  refine (fields_any (Way.w w0 q) (s := s) (L := L) h hn hr (show s.2.length + 1000 * 6 ≤ 1000000 by omega) ⟨A, c, rfl, hC, hc, hL, hl⟩).mono ?_
  rintro e' w' ⟨he, h1, h2⟩
  refine ⟨he, ?_⟩
  by_cases h4 : ns.getD 0 0 = 4
  · obtain ⟨v', hs⟩ := h2 h4
    have h9 : Sit w0 w' (.out (Do.w.fields (ns.getD 0 0) s ns L).1.1.1 q (Do.w.fields (ns.getD 0 0) s ns L).1.1.2 :: .blk rb (.cells (cs26 (Do.w.fields (ns.getD 0 0) s ns L).1.2 v') 26 (0, 0)) :: row93 v' (Do.w.fields (ns.getD 0 0) s ns L).2 :: T) := hs
    have hR := h9.rot.row93R
    obtain ⟨A', c', rfl, hc', hC'⟩ := Kd.R_reads hR
    exact ⟨A', c', hc', hC', h9.rot.tail⟩
  · have h9 : Sit w0 w' (.out (Do.w.fields (ns.getD 0 0) s ns L).1.1.1 q (Do.w.fields (ns.getD 0 0) s ns L).1.1.2 :: .blk rb (.cells (cs26 (Do.w.fields (ns.getD 0 0) s ns L).1.2 (.slice A L.length c)) 26 (0, 0)) :: T) := h1 h4
    have e : (Do.w.fields (ns.getD 0 0) s ns L).2 = L := by unfold Do.fields; rw [if_neg h4]; (repeat' split) <;> rfl
    rw [e]
    exact ⟨A, c, hc, Kd.C_below hC h9.below, h9⟩
theorem fieldsR {w0 W : World} {T : List Thing} {q g rb : Nat} {s : Bool × List Int} {ns : List Int} (h : Sit w0 W (.inn g s.2 :: .blk q (rdr g s.1) :: .blk rb (.cells (cs26 ns (.slice none 0 0)) 26 (0, 0)) :: T)) (hn : ns.length = 9) :
    Calls Try.prog 24 #[.pointer (some ⟨rb, 0, none⟩), .agg (wayC 23 48 49 50 q)] W fun e' w' => e' = .returned (.bool (okKind (ns.getD 0 0))) ∧ ∃ v', Sit w0 w' (.inn g (Do.r.fields (ns.getD 0 0) s ns []).1.1.2 :: .blk q (rdr g (Do.r.fields (ns.getD 0 0) s ns []).1.1.1) :: .blk rb (.cells (cs26 (Do.r.fields (ns.getD 0 0) s ns []).1.2 v') 26 (0, 0)) :: row93 v' (Do.r.fields (ns.getD 0 0) s ns []).2 :: T) := by
  refine (fields_any (Way.r w0 q g) (s := s) (L := []) h hn (fun _ _ => trivial) trivial rfl).mono ?_
  rintro e' w' ⟨he, h1, h2⟩
  refine ⟨he, ?_⟩
  by_cases h4 : ns.getD 0 0 = 4
  · exact h2 h4
  · have h9 : Sit w0 w' (.inn g (Do.r.fields (ns.getD 0 0) s ns []).1.1.2 :: .blk q (rdr g (Do.r.fields (ns.getD 0 0) s ns []).1.1.1) :: .blk rb (.cells (cs26 (Do.r.fields (ns.getD 0 0) s ns []).1.2 (.slice none 0 0)) 26 (0, 0)) :: T) := h1 h4
    have e : (Do.r.fields (ns.getD 0 0) s ns []).2 = [] := by unfold Do.fields; rw [if_neg h4]; (repeat' split) <;> rfl
    rw [e]
    exact ⟨_, (sit_nil93 h9).perm (shB _ _ _ _ _)⟩
end Go.Proofs.Ytgdelfckhcgnhaa.Code
