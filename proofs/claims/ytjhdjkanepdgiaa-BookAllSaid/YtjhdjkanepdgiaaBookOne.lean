/- book.one, book.at, slices.Clone of lines: the walks. No conditions beside those that each contract states. -/
import Derived.Test.YtjhdjkanepdgiaaPa4
import Derived.WalkSpells
import Derived.Lib.SliceRun
namespace Go.Proofs.Ytjhdjkanepdgiaa.Book
open Go Go.RowKit Go.Proofs.Ytjhdjkanepdgiaa.Pa Go.Proofs.YtjhdjkanepdgiaaW.PrintWords Go.Proofs.YtjhdjkanepdgiaaW.PrintLast Go.Proofs.YtjhdjkanepdgiaaW.PrintMore
set_option linter.unusedVariables false
set_option linter.unusedSimpArgs false

abbrev Line := S33
abbrev Booking := S25
theorem infoE33 : (Try.prog.info? 33).map (fun i => (i.zero, i.size, i.bytes)) = some (some (.agg #[.int .i64 0, .int .i64 0, .int .i64 0]), 3, 24) := by kernel_rfl
def lineB (x : Line) : Bool := decide (0 ≤ x.f0 ∧ x.f0 < 16 ∧ 0 ≤ x.f1 ∧ x.f1 < 4 ∧ 0 ≤ x.f2)
def oddL (x : Line) : Bool := !lineB x
def openL (x : Line) : Bool := decide (0 < x.f2)
theorem line_f (x : Line) : book_line.f x.f0 x.f1 x.f2 = some (lineB x) := by
  unfold book_line.f lineB
  repeat' split
  all_goals (congr 1; first | exact decide_eq_decide.2 (by omega) | exact (decide_eq_false (by omega)).symm)
theorem open_f (x : Line) : book_open.f x.f0 x.f1 x.f2 = some (openL x) := by
  unfold book_open.f openL
  rfl
theorem line_any (x : Line) (w : World) : Calls Try.prog 41 #[.agg #[.int .i64 x.f0, .int .i64 x.f1, .int .i64 x.f2]] w fun e w' => e = .returned (.bool (lineB x)) ∧ Below w.heap.size w w' := book_line.calls _ _ _ _ w (line_f x)
theorem open_any (x : Line) (w : World) : Calls Try.prog 30 #[.agg #[.int .i64 x.f0, .int .i64 x.f1, .int .i64 x.f2]] w fun e w' => e = .returned (.bool (openL x)) ∧ Below w.heap.size w w' := book_open.calls _ _ _ _ w (open_f x)
theorem odd_any (x : Line) (w : World) : Calls Try.prog 40 #[.agg #[.int .i64 x.f0, .int .i64 x.f1, .int .i64 x.f2]] w fun e w' => e = .returned (.bool (oddL x)) ∧ Below w.heap.size w w' := by
  have pl := fun W => line_any x W
  unfold oddL
  obtain ⟨b, hb⟩ : ∃ b, b = lineB x := ⟨_, rfl⟩
  rw [← hb] at pl ⊢
  clear hb
  have hw : Below w.heap.size w (w.alloc (.cells #[.int .i64 x.f0, .int .i64 x.f1, .int .i64 x.f2] 33)) := (Below.refl _ _).alloc (Nat.le_refl _) _
  have HW := Aside0.mk hw
  clear hw
  go_enter Try.func40, Try.ntmps40
  go_wp2_with (go_at_call 41; refine (pl _).mono ?_; rintro e w1 ⟨rfl, hb⟩; have HB := Aside0.mk (below_then HW.out (by simp) hb); clear hb)
  go_ret
  exact ⟨rfl, HB.out⟩
/-- Where the first one stands; -1: nowhere. -/
def idxO (l : List Line) : Int := if l.any oddL then (l.findIdx oddL : Nat) else -1
theorem idxO_some {l : List Line} {k : Nat} (h : k < l.length) (hn : ∀ x ∈ l.take k, oddL x = false) (hp : oddL (l.getD k z33) = true) : idxO l = (k : Int) := by
  have hk : l.getD k z33 = l[k] := by simp [h]
  rw [hk] at hp
  have ha : l.any oddL = true := List.any_eq_true.2 ⟨l[k], List.getElem_mem h, hp⟩
  unfold idxO
  rw [if_pos ha]
  have : l.findIdx oddL = k := by
    rw [List.findIdx_eq h]
    refine ⟨hp, fun j hj => ?_⟩
    have := hn l[j] (by rw [List.mem_take_iff_getElem]; exact ⟨j, by omega, rfl⟩)
    simpa using this
  rw [this]
theorem idxO_none {l : List Line} (hn : ∀ x ∈ l, oddL x = false) : idxO l = -1 := by
  unfold idxO
  have ha : l.any oddL = false := by rw [List.any_eq_false]; intro x hx; simp [hn x hx]
  rw [ha]; rfl
set_option maxRecDepth 100000 in
set_option maxHeartbeats 4000000 in
theorem indexO_any (A0 : Option Addr) (c0 : Nat) (l0 : List Line) (w : World) (hr0 : Kd.C k33 w A0 l0.length l0) (hc0 : l0.length ≤ c0) :
    Calls Try.prog 42 #[.slice A0 l0.length c0, .func (.func 40) #[] #[]] w fun e w' => e = .returned (.int .i64 (idxO l0)) ∧ Below w.heap.size w w' := by
  have hmax : l0.length ≤ 9223372036854775807 := Kd.C_max hr0
  have HR := Aside0.mk hr0
  clear hr0
  go_enter Try.func42, Try.ntmps42
  go_wp2
  go_loopw [8] (fun i wr => ∃ k : Nat, k ≤ l0.length ∧ i = .int .i64 k ∧ Aside0 (∀ x ∈ l0.take k, oddL x = false) ∧ Aside0 (Below w.heap.size w wr)) (fun i _ => l0.length - (intOf i).toNat)
  case atStart => exact ⟨0, by omega, rfl, ⟨by simp⟩, ⟨Below.refl _ _⟩⟩
  case round =>
    obtain ⟨k, hk, rfl, HN, HB⟩ := hrel
    by_cases hlt : k < l0.length
    · obtain ⟨ad, rfl, hcs⟩ := at_T33 (Kd.C_below HR.out HB.out) (k : Int) (by omega) (by omega)
      simp only [Int.toNat_natCast] at hcs
      have hx : rd_T33 l0 (k : Int) = l0.getD k z33 := by simp [rd_T33]
      obtain ⟨x, hxx⟩ : ∃ x, x = rd_T33 l0 (k : Int) := ⟨_, rfl⟩
      rw [← hxx] at hcs hx
      have HX := Aside0.mk hx
      clear hx hxx
      obtain ⟨b0, b1, b2⟩ := hcs
      cases hp : oddL x with
      | true =>
        have HP := Aside0.mk hp
        have hc := fun W => odd_any x W
        rw [hp] at hc
        clear hp
        go_wp2_with (go_at_call 40; refine (hc _).mono ?_; rintro e w1 ⟨rfl, hb⟩; have HB2 := Aside0.mk hb; clear hb hc)
        go_ret
        exact ⟨by rw [idxO_some hlt HN.out (by rw [← HX.out]; exact HP.out)]; rfl, below_then HB.out HB.out.size HB2.out⟩
      | false =>
        have HP := Aside0.mk hp
        have hc := fun W => odd_any x W
        rw [hp] at hc
        clear hp
        go_wp2_with (go_at_call 40; refine (hc _).mono ?_; rintro e w1 ⟨rfl, hb⟩; have HB2 := Aside0.mk hb; clear hb hc)
        refine ⟨⟨k + 1, by omega, by go_num, ⟨fun y hy => ?_⟩, ⟨below_then HB.out HB.out.size HB2.out⟩⟩, by simp [intOf]; omega⟩
        rw [List.take_succ_eq_append_getElem hlt, List.mem_append] at hy
        rcases hy with hy | hy
        · exact HN.out y hy
        · have e1 : y = l0[k] := by simpa using hy
          have e2 : l0.getD k z33 = l0[k] := by simp [hlt]
          rw [e1, ← e2, ← HX.out]; exact HP.out
    · obtain rfl : k = l0.length := by omega
      have hn := HN.out
      rw [List.take_length] at hn
      have HN2 := Aside0.mk hn
      clear hn HN
      go_wp2
      go_ret
      exact ⟨by rw [idxO_none HN2.out]; rfl, HB.out⟩

set_option maxRecDepth 100000 in
theorem containsO_any (A0 : Option Addr) (c0 : Nat) (l0 : List Line) (w : World) (hr0 : Kd.C k33 w A0 l0.length l0) (hc0 : l0.length ≤ c0) :
    Calls Try.prog 29 #[.slice A0 l0.length c0, .func (.func 40) #[] #[]] w fun e w' => e = .returned (.bool (l0.any oddL)) ∧ Below w.heap.size w w' := by
  have HR := Aside0.mk hr0
  clear hr0
  cases ha : l0.any oddL with
  | true =>
    obtain ⟨i, hi⟩ : ∃ i : Nat, idxO l0 = (i : Int) := ⟨_, by unfold idxO; rw [if_pos ha]⟩
    have hc := indexO_any A0 c0 l0 w HR.out hc0
    rw [hi] at hc
    clear ha hi
    have h0 : decide ((i : Int) ≥ 0) = true := decide_eq_true (by omega)
    go_enter Try.func29, Try.ntmps29
    go_wp2_with (go_at_call 42; refine hc.mono ?_; rintro e w1 ⟨rfl, hb⟩; have HB := Aside0.mk hb; clear hb)
    go_ret
    exact ⟨by first | rfl | simp, HB.out⟩
  | false =>
    have hi : idxO l0 = -1 := by unfold idxO; rw [ha]; rfl
    have hc := indexO_any A0 c0 l0 w HR.out hc0
    rw [hi] at hc
    clear ha hi
    go_enter Try.func29, Try.ntmps29
    go_wp2_with (go_at_call 42; refine hc.mono ?_; rintro e w1 ⟨rfl, hb⟩; have HB := Aside0.mk hb; clear hb)
    go_ret
    exact ⟨by first | rfl | simp, HB.out⟩


/-- Where the first one stands; -1: nowhere. -/
def idxP (l : List Line) : Int := if l.any openL then (l.findIdx openL : Nat) else -1
theorem idxP_some {l : List Line} {k : Nat} (h : k < l.length) (hn : ∀ x ∈ l.take k, openL x = false) (hp : openL (l.getD k z33) = true) : idxP l = (k : Int) := by
  have hk : l.getD k z33 = l[k] := by simp [h]
  rw [hk] at hp
  have ha : l.any openL = true := List.any_eq_true.2 ⟨l[k], List.getElem_mem h, hp⟩
  unfold idxP
  rw [if_pos ha]
  have : l.findIdx openL = k := by
    rw [List.findIdx_eq h]
    refine ⟨hp, fun j hj => ?_⟩
    have := hn l[j] (by rw [List.mem_take_iff_getElem]; exact ⟨j, by omega, rfl⟩)
    simpa using this
  rw [this]
theorem idxP_none {l : List Line} (hn : ∀ x ∈ l, openL x = false) : idxP l = -1 := by
  unfold idxP
  have ha : l.any openL = false := by rw [List.any_eq_false]; intro x hx; simp [hn x hx]
  rw [ha]; rfl
set_option maxRecDepth 100000 in
set_option maxHeartbeats 4000000 in
theorem indexP_any (A0 : Option Addr) (c0 : Nat) (l0 : List Line) (w : World) (hr0 : Kd.C k33 w A0 l0.length l0) (hc0 : l0.length ≤ c0) :
    Calls Try.prog 42 #[.slice A0 l0.length c0, .func (.func 30) #[] #[]] w fun e w' => e = .returned (.int .i64 (idxP l0)) ∧ Below w.heap.size w w' := by
  have hmax : l0.length ≤ 9223372036854775807 := Kd.C_max hr0
  have HR := Aside0.mk hr0
  clear hr0
  go_enter Try.func42, Try.ntmps42
  go_wp2
  go_loopw [8] (fun i wr => ∃ k : Nat, k ≤ l0.length ∧ i = .int .i64 k ∧ Aside0 (∀ x ∈ l0.take k, openL x = false) ∧ Aside0 (Below w.heap.size w wr)) (fun i _ => l0.length - (intOf i).toNat)
  case atStart => exact ⟨0, by omega, rfl, ⟨by simp⟩, ⟨Below.refl _ _⟩⟩
  case round =>
    obtain ⟨k, hk, rfl, HN, HB⟩ := hrel
    by_cases hlt : k < l0.length
    · obtain ⟨ad, rfl, hcs⟩ := at_T33 (Kd.C_below HR.out HB.out) (k : Int) (by omega) (by omega)
      simp only [Int.toNat_natCast] at hcs
      have hx : rd_T33 l0 (k : Int) = l0.getD k z33 := by simp [rd_T33]
      obtain ⟨x, hxx⟩ : ∃ x, x = rd_T33 l0 (k : Int) := ⟨_, rfl⟩
      rw [← hxx] at hcs hx
      have HX := Aside0.mk hx
      clear hx hxx
      obtain ⟨b0, b1, b2⟩ := hcs
      cases hp : openL x with
      | true =>
        have HP := Aside0.mk hp
        have hc := fun W => open_any x W
        rw [hp] at hc
        clear hp
        go_wp2_with (go_at_call 30; refine (hc _).mono ?_; rintro e w1 ⟨rfl, hb⟩; have HB2 := Aside0.mk hb; clear hb hc)
        go_ret
        exact ⟨by rw [idxP_some hlt HN.out (by rw [← HX.out]; exact HP.out)]; rfl, below_then HB.out HB.out.size HB2.out⟩
      | false =>
        have HP := Aside0.mk hp
        have hc := fun W => open_any x W
        rw [hp] at hc
        clear hp
        go_wp2_with (go_at_call 30; refine (hc _).mono ?_; rintro e w1 ⟨rfl, hb⟩; have HB2 := Aside0.mk hb; clear hb hc)
        refine ⟨⟨k + 1, by omega, by go_num, ⟨fun y hy => ?_⟩, ⟨below_then HB.out HB.out.size HB2.out⟩⟩, by simp [intOf]; omega⟩
        rw [List.take_succ_eq_append_getElem hlt, List.mem_append] at hy
        rcases hy with hy | hy
        · exact HN.out y hy
        · have e1 : y = l0[k] := by simpa using hy
          have e2 : l0.getD k z33 = l0[k] := by simp [hlt]
          rw [e1, ← e2, ← HX.out]; exact HP.out
    · obtain rfl : k = l0.length := by omega
      have hn := HN.out
      rw [List.take_length] at hn
      have HN2 := Aside0.mk hn
      clear hn HN
      go_wp2
      go_ret
      exact ⟨by rw [idxP_none HN2.out]; rfl, HB.out⟩

set_option maxRecDepth 100000 in
theorem containsP_any (A0 : Option Addr) (c0 : Nat) (l0 : List Line) (w : World) (hr0 : Kd.C k33 w A0 l0.length l0) (hc0 : l0.length ≤ c0) :
    Calls Try.prog 29 #[.slice A0 l0.length c0, .func (.func 30) #[] #[]] w fun e w' => e = .returned (.bool (l0.any openL)) ∧ Below w.heap.size w w' := by
  have HR := Aside0.mk hr0
  clear hr0
  cases ha : l0.any openL with
  | true =>
    obtain ⟨i, hi⟩ : ∃ i : Nat, idxP l0 = (i : Int) := ⟨_, by unfold idxP; rw [if_pos ha]⟩
    have hc := indexP_any A0 c0 l0 w HR.out hc0
    rw [hi] at hc
    clear ha hi
    have h0 : decide ((i : Int) ≥ 0) = true := decide_eq_true (by omega)
    go_enter Try.func29, Try.ntmps29
    go_wp2_with (go_at_call 42; refine hc.mono ?_; rintro e w1 ⟨rfl, hb⟩; have HB := Aside0.mk hb; clear hb)
    go_ret
    exact ⟨by first | rfl | simp, HB.out⟩
  | false =>
    have hi : idxP l0 = -1 := by unfold idxP; rw [ha]; rfl
    have hc := indexP_any A0 c0 l0 w HR.out hc0
    rw [hi] at hc
    clear ha hi
    go_enter Try.func29, Try.ntmps29
    go_wp2_with (go_at_call 42; refine hc.mono ?_; rintro e w1 ⟨rfl, hb⟩; have HB := Aside0.mk hb; clear hb)
    go_ret
    exact ⟨by first | rfl | simp, HB.out⟩


theorem R_empty {α : Type} (d : Kd α) (e : Nat) (w : World) : d.R e (w.alloc (.cells #[] e)) w.heap.size (fun _ => True) (.slice (some ⟨w.heap.size, 0, none⟩) 0 0) [] :=
  ⟨fun _ _ => trivial, [], ⟨by simp, .inr ⟨w.heap.size, 0, #[], rfl, Nat.le_refl _, heap_alloc_new w _, Nat.le_refl _, by simp [maxLen], by simp, by simp⟩⟩, Reps.none _ _⟩
set_option maxRecDepth 100000 in
set_option maxHeartbeats 2000000 in
theorem clone_any33 (A0 : Option Addr) (c0 : Nat) (l0 : List Line) (w : World) (hr0 : Kd.C k33 w A0 l0.length l0) (hc0 : l0.length ≤ c0) (hl : l0.length * 24 ≤ 140737488355328) :
    Calls Try.prog 33 #[.slice A0 l0.length c0] w fun e w' => ∃ v, e = .returned v ∧ Kd.R k33 33 w' w.heap.size (fun _ => True) v l0 ∧ Below w.heap.size w w' := by
  have HR := Aside0.mk hr0
  have HL := Aside0.mk hl
  cases A0 with
  | none =>
    have he : l0 = [] := by
      cases l0 with
      | nil => rfl
      | cons x r => obtain ⟨ad, h, _⟩ := hr0.2.2 (by simp); cases h
    subst he
    clear hr0 hl
    have kn := fun (w : World) (a : Option Addr) (n c : Nat) => Lib.run_eql_slice_nil (P := Try.prog) w 23 33 a n c 0 0 Try.underlying23
    go_enter Try.func33, Try.ntmps33
    go_wp2
    go_ret
    exact ⟨_, rfl, Kd.R_nil _ _ _ _ _, Below.refl _ _⟩
  | some ad =>
    clear hr0 hl
    have kn := fun (w : World) (a : Option Addr) (n c : Nat) => Lib.run_eql_slice_nil (P := Try.prog) w 23 33 a n c 0 0 Try.underlying23
    go_enter Try.func33, Try.ntmps33
    go_wp2_with ((with_reducible refine gate_builtin (b := .append) (xs := #[.tmp 5, .tmp 6]) rfl ?_); at_builtin; refine Kd.R_append_rows k33 (w0 := w) w.heap.size rfl (.tmp 5) (.tmp 6) 23 33 (.agg #[.int .i64 0, .int .i64 0, .int .i64 0]) 24 rfl Try.underlying23 infoE33 rfl (by decide) (by omega) _ [] l0 _ _ _ (fun _ => True) (fun _ => False) rfl rfl ?aO ?aR (fun _ _ h => h) (fun _ h => h.elim) ?aF ?aB ?aS ?aL ?_; (case aF => exact fun _ _ => trivial); (case aO => exact R_empty _ _ _); (case aR => exact Kd.C_alloc HR.out _); (case aB => exact below_alloc (Below.refl _ _) _); (case aS => simp); (case aL => have := HL.out; simp; omega); intro v1 w2 ho hb hg hat; have HO := Aside0.mk ho; have HB2 := Aside0.mk hb; clear ho hb hg hat)
    go_ret
    exact ⟨_, rfl, HO.out, HB2.out⟩


/-- May a booking be? -/
def oneB (id due : Int) (l : List Line) : Bool := decide (1 ≤ id ∧ 0 ≤ due ∧ due ≤ 1099511627776 ∧ 1 ≤ l.length ∧ l.length ≤ 4) && (!l.any oddL && l.any openL)
set_option maxRecDepth 100000 in
set_option maxHeartbeats 8000000 in
theorem one_any (id due : Int) (A : Option Addr) (c : Nat) (l : List Line) (w : World) (hC : Kd.C k33 w A l.length l) (hc : l.length ≤ c) :
    Calls Try.prog 25 #[.agg #[.int .i64 id, .int .i64 due, .slice A l.length c]] w fun e w' => e = .returned (.bool (oneB id due l)) ∧ Below w.heap.size w w' := by
  have hmax := Kd.C_max hC
  have hw : Below w.heap.size w (w.alloc (.cells #[.int .i64 id, .int .i64 due, .slice A l.length c] 25)) := (Below.refl _ _).alloc (Nat.le_refl _) _
  have po := containsO_any A c l _ (Kd.C_below hC hw) hc
  have HX := Aside0.mk (And.intro hC hc)
  obtain ⟨r, hr⟩ : ∃ r, r = oneB id due l := ⟨_, rfl⟩
  obtain ⟨n, hn⟩ : ∃ n, n = l.length := ⟨_, rfl⟩
  obtain ⟨bo, hbo⟩ : ∃ bo, bo = l.any oddL := ⟨_, rfl⟩
  obtain ⟨bp, hbp⟩ : ∃ bp, bp = l.any openL := ⟨_, rfl⟩
  rw [← hr, ← hn]
  unfold oneB at hr
  rw [← hn, ← hbo, ← hbp] at hr
  rw [← hn, ← hbo] at po
  rw [← hn] at hmax hw
  have HN := Aside0.mk (And.intro hn (And.intro hbo hbp))
  have HW := Aside0.mk hw
  clear hC hc hn hbo hbp hw
  by_cases h1 : 1 ≤ id
  case neg =>
    have HR : Aside0 (r = false) := ⟨by rw [hr, decide_eq_false (by omega)]; rfl⟩
    clear hr po
    go_enter Try.func25, Try.ntmps25
    go_wp2
    all_goals
      go_ret
      exact ⟨by rw [HR.out]; rfl, HW.out⟩
  by_cases h2 : 0 ≤ due
  case neg =>
    have HR : Aside0 (r = false) := ⟨by rw [hr, decide_eq_false (by omega)]; rfl⟩
    clear hr po
    go_enter Try.func25, Try.ntmps25
    go_wp2
    all_goals
      go_ret
      exact ⟨by rw [HR.out]; rfl, HW.out⟩
  by_cases h3 : due ≤ 1099511627776
  case neg =>
    have HR : Aside0 (r = false) := ⟨by rw [hr, decide_eq_false (by omega)]; rfl⟩
    clear hr po
    go_enter Try.func25, Try.ntmps25
    go_wp2
    all_goals
      go_ret
      exact ⟨by rw [HR.out]; rfl, HW.out⟩
  by_cases h4 : 1 ≤ n
  case neg =>
    have HR : Aside0 (r = false) := ⟨by rw [hr, decide_eq_false (by omega)]; rfl⟩
    clear hr po
    go_enter Try.func25, Try.ntmps25
    go_wp2
    all_goals
      go_ret
      exact ⟨by rw [HR.out]; rfl, HW.out⟩
  by_cases h5 : n ≤ 4
  case neg =>
    have HR : Aside0 (r = false) := ⟨by rw [hr, decide_eq_false (by omega)]; rfl⟩
    clear hr po
    go_enter Try.func25, Try.ntmps25
    go_wp2
    all_goals
      go_ret
      exact ⟨by rw [HR.out]; rfl, HW.out⟩
  have hr2 : r = (!bo && bp) := by rw [hr, decide_eq_true ⟨h1, h2, h3, h4, h5⟩]; rfl
  clear hr
  cases bo with
  | true =>
    have HR : Aside0 (r = false) := ⟨hr2⟩
    clear hr2
    go_enter Try.func25, Try.ntmps25
    go_wp2_with (go_at_call 29; refine po.mono ?_; rintro e w1 ⟨rfl, hb⟩; have HB := Aside0.mk (below_then HW.out (by simp) hb); clear hb)
    go_ret
    exact ⟨by rw [HR.out]; rfl, HB.out⟩
  | false =>
    have HR : Aside0 (r = bp) := ⟨hr2⟩
    clear hr2
    go_enter Try.func25, Try.ntmps25
    go_wp2_with fail
    go_at_call 29
    refine po.mono ?_
    rintro e w1 ⟨rfl, hb⟩
    have k1 := (hb.block w.heap.size (by simp)).trans (heap_alloc_new w _)
    have x2 : w1.cell? ⟨w.heap.size, 2, none⟩ = some (.slice A n c) := by rw [cell_of_row _ _ _ _ _ _ k1]; rfl
    have HB := Aside0.mk (below_then HW.out (by simp) hb)
    have pp := containsP_any A c l w1 (Kd.C_below HX.out.1 HB.out) HX.out.2
    rw [← HN.out.1, ← HN.out.2.2] at pp
    clear hb k1 po
    go_wp2_with fail
    go_at_call 29
    refine pp.mono ?_
    rintro e w2 ⟨rfl, hb⟩
    have HB2 := Aside0.mk (below_then HB.out HB.out.size hb)
    clear hb pp
    go_wp2
    go_ret
    exact ⟨by rw [HR.out]; rfl, HB2.out⟩
def isB (id : Int) (x : Booking) : Bool := x.f0 == id
theorem isB_any (id : Int) (b : Nat) (x : Booking) (A : Option Addr) (c : Nat) (w : World) (hb : w.cell? ⟨b, 0, none⟩ = some (.int .i64 id)) :
    Calls Try.prog 47 #[.agg #[.int .i64 x.f0, .int .i64 x.f1, .slice A x.f2.length c], .pointer (some ⟨b, 0, none⟩)] w fun e w' => e = .returned (.bool (isB id x)) ∧ Below w.heap.size w w' := by
  have hb2 : (w.alloc (.cells #[.int .i64 x.f0, .int .i64 x.f1, .slice A x.f2.length c] 25)).cell? ⟨b, 0, none⟩ = some (.int .i64 id) := pw_cell_below ((Below.refl _ _).alloc (Nat.le_refl _) _) hb
  go_enter Try.func47, Try.ntmps47
  go_wp2
  go_ret
  exact ⟨rfl, (Below.refl _ _).alloc (Nat.le_refl _) _⟩
/-- Where the first one stands; -1: nowhere. -/
def idxB (id : Int) (l : List Booking) : Int := if l.any (isB id) then (l.findIdx (isB id) : Nat) else -1
theorem idxB_some {id : Int} {l : List Booking} {k : Nat} (h : k < l.length) (hn : ∀ x ∈ l.take k, (isB id) x = false) (hp : (isB id) (l.getD k z25) = true) : idxB id l = (k : Int) := by
  have hk : l.getD k z25 = l[k] := by simp [h]
  rw [hk] at hp
  have ha : l.any (isB id) = true := List.any_eq_true.2 ⟨l[k], List.getElem_mem h, hp⟩
  unfold idxB
  rw [if_pos ha]
  have : l.findIdx (isB id) = k := by
    rw [List.findIdx_eq h]
    refine ⟨hp, fun j hj => ?_⟩
    have := hn l[j] (by rw [List.mem_take_iff_getElem]; exact ⟨j, by omega, rfl⟩)
    simpa using this
  rw [this]
theorem idxB_none {id : Int} {l : List Booking} (hn : ∀ x ∈ l, (isB id) x = false) : idxB id l = -1 := by
  unfold idxB
  have ha : l.any (isB id) = false := by rw [List.any_eq_false]; intro x hx; simp [hn x hx]
  rw [ha]; rfl
set_option maxRecDepth 100000 in
set_option maxHeartbeats 4000000 in
theorem indexB_any (id : Int) (b : Nat) (A0 : Option Addr) (c0 : Nat) (l0 : List Booking) (w : World) (hr0 : Kd.C k25 w A0 l0.length l0) (hc0 : l0.length ≤ c0) (hb0 : w.cell? ⟨b, 0, none⟩ = some (.int .i64 id)) :
    Calls Try.prog 46 #[.slice A0 l0.length c0, .func (.func 47) #[] #[.pointer (some ⟨b, 0, none⟩)]] w fun e w' => e = .returned (.int .i64 (idxB id l0)) ∧ Below w.heap.size w w' := by
  have hmax : l0.length ≤ 9223372036854775807 := Kd.C_max hr0
  have HR := Aside0.mk hr0
  have HB0 := Aside0.mk hb0
  clear hr0 hb0
  go_enter Try.func46, Try.ntmps46
  go_wp2
  go_loopw [8] (fun i wr => ∃ k : Nat, k ≤ l0.length ∧ i = .int .i64 k ∧ Aside0 (∀ x ∈ l0.take k, (isB id) x = false) ∧ Aside0 (Below w.heap.size w wr)) (fun i _ => l0.length - (intOf i).toNat)
  case atStart => exact ⟨0, by omega, rfl, ⟨by simp⟩, ⟨Below.refl _ _⟩⟩
  case round =>
    obtain ⟨k, hk, rfl, HN, HB⟩ := hrel
    by_cases hlt : k < l0.length
    · obtain ⟨ad, A2, c2, rfl, hcs⟩ := at_T25 (Kd.C_below HR.out HB.out) (k : Int) (by omega) (by omega)
      simp only [Int.toNat_natCast] at hcs
      have hx : rd_T25 l0 (k : Int) = l0.getD k z25 := by simp [rd_T25]
      obtain ⟨x, hxx⟩ : ∃ x, x = rd_T25 l0 (k : Int) := ⟨_, rfl⟩
      rw [← hxx] at hcs hx
      have HX := Aside0.mk hx
      clear hx hxx
      obtain ⟨b0, b1, b2, l2, g2⟩ := hcs
      cases hp : (isB id) x with
      | true =>
        have HP := Aside0.mk hp
        have hc := isB_any id b x A2 c2 wr (pw_cell_below HB.out HB0.out)
        rw [hp] at hc
        clear hp
        go_wp2_with (go_at_call 47; refine hc.mono ?_; rintro e w1 ⟨rfl, hb⟩; have HB2 := Aside0.mk hb; clear hb hc)
        go_ret
        exact ⟨by rw [idxB_some hlt HN.out (by rw [← HX.out]; exact HP.out)]; rfl, below_then HB.out HB.out.size HB2.out⟩
      | false =>
        have HP := Aside0.mk hp
        have hc := isB_any id b x A2 c2 wr (pw_cell_below HB.out HB0.out)
        rw [hp] at hc
        clear hp
        go_wp2_with (go_at_call 47; refine hc.mono ?_; rintro e w1 ⟨rfl, hb⟩; have HB2 := Aside0.mk hb; clear hb hc)
        refine ⟨⟨k + 1, by omega, by go_num, ⟨fun y hy => ?_⟩, ⟨below_then HB.out HB.out.size HB2.out⟩⟩, by simp [intOf]; omega⟩
        rw [List.take_succ_eq_append_getElem hlt, List.mem_append] at hy
        rcases hy with hy | hy
        · exact HN.out y hy
        · have e1 : y = l0[k] := by simpa using hy
          have e2 : l0.getD k z25 = l0[k] := by simp [hlt]
          rw [e1, ← e2, ← HX.out]; exact HP.out
    · obtain rfl : k = l0.length := by omega
      have hn := HN.out
      rw [List.take_length] at hn
      have HN2 := Aside0.mk hn
      clear hn HN
      go_wp2
      go_ret
      exact ⟨by rw [idxB_none HN2.out]; rfl, HB.out⟩

theorem at_any (id : Int) (A : Option Addr) (c : Nat) (l : List Booking) (w : World) (hC : Kd.C k25 w A l.length l) (hc : l.length ≤ c) :
    Calls Try.prog 39 #[.slice A l.length c, .int .i64 id] w fun e w' => e = .returned (.int .i64 (idxB id l)) ∧ Below w.heap.size w w' := by
  have hw : Below w.heap.size w (w.alloc (.cells #[.int .i64 id] 3)) := (Below.refl _ _).alloc (Nat.le_refl _) _
  have hc1 : (w.alloc (.cells #[.int .i64 id] 3)).cell? ⟨w.heap.size, 0, none⟩ = some (.int .i64 id) := by rw [cell_of_row _ _ _ _ _ _ (heap_alloc_new w _)]; rfl
  have p := indexB_any id w.heap.size A c l _ (Kd.C_below hC hw) hc hc1
  have HW := Aside0.mk hw
  obtain ⟨n, hn⟩ : ∃ n, n = l.length := ⟨_, rfl⟩
  obtain ⟨r, hr⟩ : ∃ r, r = idxB id l := ⟨_, rfl⟩
  rw [← hn, ← hr] at p ⊢
  clear hC hc hw hc1 hn hr
  go_enter Try.func39, Try.ntmps39
  go_wp2_with (go_at_call 46; refine p.mono ?_; rintro e w1 ⟨rfl, hb⟩; have HB := Aside0.mk (below_then HW.out (by simp) hb); clear hb)
  go_ret
  exact ⟨rfl, HB.out⟩
end Go.Proofs.Ytjhdjkanepdgiaa.Book
