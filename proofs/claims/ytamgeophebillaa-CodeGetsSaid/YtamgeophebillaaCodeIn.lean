/- What is got: a number from 0 on, a number, bytes; how much is left. No conditions beside those that each theorem states. -/
import Derived.Test.YtamgeophebillaaCodeLook
import Derived.Test.YtamgeophebillaaCodeClone
namespace Go.Proofs.Ytamgeophebillaa.Code
open Go.RowKit Go.Proofs.Ytamgeophebillaa.Pa Go.Proofs.YtamgeophebillaaW.PrintWords Go.Proofs.YtamgeophebillaaW.PrintLast Go.Proofs.YtamgeophebillaaW.PrintMore
set_option linter.unusedVariables false

theorem look_ends : ∀ (bs : List Int) (k n : Nat), (k ≤ 9) → n < 128 ^ k → Bytes bs → ((look k n bs).e = 0 ∧ k < (look k n bs).long ∧ (look k n bs).long ≤ k + bs.length ∧ (look k n bs).long ≤ 10 ∧ (look k n bs).n < 18446744073709551616) ∨ (((look k n bs).e = 6 ∨ (look k n bs).e = 7) ∧ (look k n bs).n = 0 ∧ (look k n bs).long = 0)
  | [], k, n, hk, hn, hb => .inr ⟨.inl rfl, rfl, rfl⟩
  | d :: r, k, n, hk, hn, hb => by
    have hd := hb d (by simp)
    rw [look]
    by_cases h1 : k = 9 ∧ 1 < d
    · rw [if_pos h1]; exact .inr ⟨.inr rfl, rfl, rfl⟩
    · rw [if_neg h1]
      by_cases h2 : 128 ≤ d
      · rw [if_pos h2]
        have hk8 : k ≤ 8 := by
          rcases Nat.lt_or_ge k 9 with h | h
          · omega
          · exact absurd ⟨by omega, by omega⟩ h1
        rcases look_ends r (k + 1) (n + (d - 128).toNat * 128 ^ k) (by omega) (look_next hn (by omega)) (fun x hx => hb x (by simp [hx])) with h | h
        · refine .inl ⟨h.1, by omega, by rw [List.length_cons]; omega, h.2.2.2.1, h.2.2.2.2⟩
        · exact .inr h
      · rw [if_neg h2]
        by_cases h3 : d = 0 ∧ 0 < k
        · rw [if_pos h3]; exact .inr ⟨.inr rfl, rfl, rfl⟩
        · rw [if_neg h3]
          refine .inl ⟨rfl, by simp, by simp, by simp; omega, ?_⟩
          show n + d.toNat * 128 ^ k < _
          rcases Nat.lt_or_ge k 9 with h | h
          · have h5 := look_next hn (d := d.toNat) (by omega)
            have : (128 : Nat) ^ (k + 1) ≤ 128 ^ 9 := Nat.pow_le_pow_right (by decide) (by omega)
            have e9 : (128 : Nat) ^ 9 = 9223372036854775808 := by decide
            omega
          · have : k = 9 := by omega
            subst this
            have h6 : d.toNat ≤ 1 := by
              rcases Int.lt_or_le 1 d with h | h
              · exact absurd ⟨rfl, h⟩ h1
              · omega
            have e9 : (128 : Nat) ^ 9 = 9223372036854775808 := by decide
            rw [e9] at hn ⊢
            omega
theorem look_cases {bs : List Int} (hb : Bytes bs) : ((look 0 0 bs).e = 0 ∧ 0 < (look 0 0 bs).long ∧ (look 0 0 bs).long ≤ bs.length ∧ (look 0 0 bs).long ≤ 10 ∧ (look 0 0 bs).n < 18446744073709551616) ∨ (((look 0 0 bs).e = 6 ∨ (look 0 0 bs).e = 7) ∧ (look 0 0 bs).n = 0 ∧ (look 0 0 bs).long = 0) := by
  have := look_ends bs 0 0 (by omega) (by simp) hb
  simpa using this
/-- The number that stands next, if it is one from 0 on. -/
def seen (bs : List Int) : Seen := if (look 0 0 bs).e = 0 ∧ 9223372036854775808 ≤ (look 0 0 bs).n then ⟨0, 0, 7⟩ else look 0 0 bs
theorem seen_cases {bs : List Int} (hb : Bytes bs) : ((seen bs).e = 0 ∧ 0 < (seen bs).long ∧ (seen bs).long ≤ bs.length ∧ (seen bs).long ≤ 10 ∧ (seen bs).n < 9223372036854775808) ∨ (((seen bs).e = 6 ∨ (seen bs).e = 7) ∧ (seen bs).n = 0 ∧ (seen bs).long = 0) := by
  unfold seen
  by_cases h : (look 0 0 bs).e = 0 ∧ 9223372036854775808 ≤ (look 0 0 bs).n
  · rw [if_pos h]; exact .inr ⟨.inr rfl, rfl, rfl⟩
  · rw [if_neg h]
    rcases look_cases hb with h1 | h1
    · refine .inl ⟨h1.1, h1.2.1, h1.2.2.1, h1.2.2.2.1, ?_⟩
      rcases Nat.lt_or_ge (look 0 0 bs).n 9223372036854775808 with h2 | h2
      · exact h2
      · exact absurd ⟨h1.1, h2⟩ h
    · exact .inr h1
structure Got (α : Type) where
  v : α
  left : List Int
  e : Int
def getNum (bs : List Int) : Got Int := if (seen bs).e = 0 then ⟨(seen bs).n, bs.drop (seen bs).long, 0⟩ else ⟨0, bs, (seen bs).e⟩
def getInt (bs : List Int) : Got Int := if (look 0 0 bs).e = 0 then ⟨if (look 0 0 bs).n % 2 = 1 then -((look 0 0 bs).n / 2 : Nat) - 1 else ((look 0 0 bs).n / 2 : Nat), bs.drop (look 0 0 bs).long, 0⟩ else ⟨0, bs, (look 0 0 bs).e⟩
def getBytes (bs : List Int) : Got (List Int) :=
  if (seen bs).e = 0 then (if 4096 < (seen bs).n then ⟨[], bs, 2⟩ else if bs.length - (seen bs).long < (seen bs).n then ⟨[], bs, 6⟩ else ⟨(bs.take ((seen bs).long + (seen bs).n)).drop (seen bs).long, bs.drop ((seen bs).long + (seen bs).n), 0⟩) else ⟨[], bs, (seen bs).e⟩

/-- Bytes that are being got, at block g; M: where the bytes themselves lie. -/
def Inn (w : World) (g : Nat) (M : Nat → Prop) (bs : List Int) : Prop :=
  Bytes bs ∧ ∃ A cap, w.heap[g]? = some (.cells #[.slice A bs.length cap] 54 (0, 0)) ∧ bs.length ≤ cap ∧ cap ≤ 9223372036854775807 ∧ Kd.F (Kd.int .u8) w M A bs.length bs ∧ ¬ M g
theorem Inn.open_ {w : World} {g : Nat} {M : Nat → Prop} {bs : List Int} (h : Inn w g M bs) : ∃ A cap, w.cell? ⟨g, 0, none⟩ = some (.slice A bs.length cap) ∧ w.frozen? ⟨g, 0, none⟩ = false ∧ bs.length ≤ cap ∧ cap ≤ 9223372036854775807 ∧ Kd.C (Kd.int .u8) w A bs.length bs ∧ g < w.heap.size := by
  obtain ⟨_, A, cap, h1, h2, h3, h4, _⟩ := h
  exact ⟨A, cap, by rw [cell_of_row _ _ _ _ _ _ h1]; rfl, by simp [World.frozen?, h1], h2, h3, Kd.F_now h4, (Array.getElem?_eq_some_iff.1 h1).1⟩

set_option maxRecDepth 100000 in
set_option maxHeartbeats 8000000 in
theorem innum_any (g : Nat) (M : Nat → Prop) (bs : List Int) (w : World) (h : Inn w g M bs) :
    Calls Try.prog 29 #[.pointer (some ⟨g, 0, none⟩)] w fun e w' => e = .returned (.tuple #[.int .i64 ((seen bs).n : Int), .int .i64 ((seen bs).long : Int), .int .i64 (seen bs).e]) ∧ w' = w := by
  obtain ⟨A, cap, h1, h2, h3, h4, h5, h6⟩ := h.open_
  have hl := look_any g A cap bs w h1 h5 h.1
  have hc := look_cases h.1
  unfold seen
  generalize look 0 0 bs = r at hl hc ⊢
  have HC := Aside0.mk hc
  obtain ⟨n, long, e⟩ := r
  simp only at *
  obtain ⟨z, hz⟩ : ∃ z : Int, z = (n : Int) := ⟨_, rfl⟩
  have hzn : z < 18446744073709551616 := by omega
  rw [← hz] at hl
  by_cases he : e = 0
  · subst he
    by_cases hn : 9223372036854775808 ≤ n
    · rw [if_pos ⟨rfl, hn⟩]
      have hn' : (9223372036854775808 : Int) ≤ z := by omega
      clear h hc hz h1 h2 h3 h4 h5 hn
      go_enter Try.func29, Try.ntmps29
      go_wp2_with (go_at_call 32; refine hl.mono ?_; rintro e w1 ⟨rfl, rfl⟩)
      go_ret3
      exact ⟨rfl, rfl⟩
    · rw [if_neg (fun h => hn h.2)]
      have hn' : z < 9223372036854775808 := by omega
      have hn0 : 0 ≤ z := by omega
      rw [← hz]
      clear h hc hz h1 h2 h3 h4 h5 hn
      go_enter Try.func29, Try.ntmps29
      go_wp2_with (go_at_call 32; refine hl.mono ?_; rintro e w1 ⟨rfl, rfl⟩)
      go_ret3
      exact ⟨rfl, rfl⟩
  · rw [if_neg (fun h => he h.1)]
    have heb : (e == 0) = false := by simp [he]
    rcases hc with hc | ⟨_, rfl, rfl⟩
    · exact absurd hc.1 he
    · have hz0 : z = 0 := by rw [hz]; rfl
      subst hz0
      clear h h1 h2 h3 h4 h5 he hz
      go_enter Try.func29, Try.ntmps29
      go_wp2_with (go_at_call 32; refine hl.mono ?_; rintro e w1 ⟨rfl, rfl⟩)
      go_ret3
      exact ⟨rfl, rfl⟩
theorem Inn.kept {w W : World} {g : Nat} {M S : Nat → Prop} {bs : List Int} (h : Inn w g M bs) (hw : Went S w W) (hg : ¬ S g) (hM : ∀ k, M k → ¬ S k) : Inn W g M bs := by
  obtain ⟨hb, A, cap, h2, h3, h4, h5, h6⟩ := h
  exact ⟨hb, A, cap, hw.block h2 hg, h3, h4, Kd.F_step h5 (fun k hk hl => hw.kept.2 k hl (hM k hk)), h6⟩
theorem Inn.below {w W : World} {g : Nat} {M : Nat → Prop} {bs : List Int} (h : Inn w g M bs) (hb : Below w.heap.size w W) : Inn W g M bs := h.kept (Went.of_below hb (fun _ => False)) (fun e => e) (fun _ _ e => e)
/-- What a reslice, stored back, leaves. -/
theorem Inn.cut {w : World} {g n cap : Nat} {M : Nat → Prop} {bs : List Int} {A : Option Addr} (h : Inn w g M bs) (h1 : w.cell? ⟨g, 0, none⟩ = some (.slice A bs.length cap)) (hn : n ≤ bs.length) :
    Inn (w.setCell ⟨g, 0, none⟩ (.slice (if cap = n then A else A.map (·.add n)) (bs.length - n) (cap - n))) g M (bs.drop n) := by
  obtain ⟨hb, A', cap', h2, h3, h4, h5, h6⟩ := h
  have e := h1
  rw [cell_of_row _ _ _ _ _ _ h2] at e
  simp at e
  obtain ⟨rfl, rfl⟩ := e
  have hs : Kept w (w.setCell ⟨g, 0, none⟩ (.slice (if cap' = n then A' else A'.map (·.add n)) (bs.length - n) (cap' - n))) (fun k => k = g) := (Went.setq (S := fun k => k = g) (Went.refl _ w) (.inl rfl) _).kept
  refine ⟨fun x hx => hb x (List.mem_of_mem_drop hx), if cap' = n then A' else A'.map (·.add n), cap' - n, ?_, by rw [List.length_drop]; omega, by omega, ?_, h6⟩
  · rw [heap_setCell h2, List.length_drop]
    rfl
  · have h7 := Kd.F_cut h5 hn h3
    have e2 : (Kd.int .u8).sz = 1 := rfl
    rw [e2, Nat.mul_one] at h7
    exact Kd.F_step h7 (fun k hk hl => hs.2 k hl (fun e => h6 (e ▸ hk)))
theorem Went.cut {w : World} {g : Nat} (v : Value) : Went (fun k => k = g) w (w.setCell ⟨g, 0, none⟩ v) := Went.setq (S := fun k => k = g) (Went.refl _ w) (.inl rfl) _

set_option maxRecDepth 100000 in
set_option maxHeartbeats 8000000 in
theorem getnum_any (g : Nat) (M : Nat → Prop) (bs : List Int) (w : World) (h : Inn w g M bs) :
    Calls Try.prog 17 #[.pointer (some ⟨g, 0, none⟩)] w fun e w' => e = .returned (.tuple #[.int .i64 (getNum bs).v, .int .i64 (getNum bs).e]) ∧ Inn w' g M (getNum bs).left ∧ Went (fun k => k = g) w w' := by
  obtain ⟨A, cap, h1, h2, h3, h4, h5, h6⟩ := h.open_
  have hl := innum_any g M bs w h
  have hc := seen_cases h.1
  have hcut := fun n hn => Inn.cut (n := n) h h1 hn
  have HI := Aside0.mk (And.intro h hcut)
  unfold getNum
  generalize seen bs = r at hl hc ⊢
  have HC := Aside0.mk hc
  obtain ⟨n, long, e⟩ := r
  simp only at *
  obtain ⟨z, hz⟩ : ∃ z : Int, z = (n : Int) := ⟨_, rfl⟩
  have hzn : z < 18446744073709551616 := by omega
  rw [← hz] at hl
  by_cases he : e = 0
  · subst he
    rw [if_pos rfl]
    have hlong : long ≤ bs.length := by rcases hc with hc | hc <;> omega
    have HL := Aside0.mk hlong
    clear h hcut hc h5
    go_enter Try.func17, Try.ntmps17
    go_wp2_with (go_at_call 29; refine hl.mono ?_; rintro e w1 ⟨rfl, rfl⟩)
    all_goals go_ret2
    · have h7 := HI.out.2 long HL.out
      rw [if_pos (by assumption), show cap - long = 0 by omega] at h7
      exact ⟨rfl, h7, Went.cut _⟩
    · have h7 := HI.out.2 long HL.out
      rw [if_neg (by assumption)] at h7
      exact ⟨rfl, h7, Went.cut _⟩
  · rw [if_neg he]
    have heb : (e == 0) = false := by simp [he]
    rcases hc with hc | ⟨_, rfl, rfl⟩
    · exact absurd hc.1 he
    · have hz0 : z = 0 := by rw [hz]; rfl
      subst hz0
      clear h hcut h1 h2 h3 h4 h5 he hz
      go_enter Try.func17, Try.ntmps17
      go_wp2_with (go_at_call 29; refine hl.mono ?_; rintro e w1 ⟨rfl, rfl⟩)
      go_ret2
      exact ⟨rfl, HI.out.1, Went.refl _ _⟩

set_option maxRecDepth 100000 in
set_option maxHeartbeats 8000000 in
theorem getint_any (g : Nat) (M : Nat → Prop) (bs : List Int) (w : World) (h : Inn w g M bs) :
    Calls Try.prog 19 #[.pointer (some ⟨g, 0, none⟩)] w fun e w' => e = .returned (.tuple #[.int .i64 (getInt bs).v, .int .i64 (getInt bs).e]) ∧ Inn w' g M (getInt bs).left ∧ Went (fun k => k = g) w w' := by
  obtain ⟨A, cap, h1, h2, h3, h4, h5, h6⟩ := h.open_
  have hl := look_any g A cap bs w h1 h5 h.1
  have hc := look_cases h.1
  have hcut := fun n hn => Inn.cut (n := n) h h1 hn
  have HI := Aside0.mk (And.intro h hcut)
  unfold getInt
  generalize look 0 0 bs = r at hl hc ⊢
  have HC := Aside0.mk hc
  obtain ⟨n, long, e⟩ := r
  simp only at *
  obtain ⟨z, hz⟩ : ∃ z : Int, z = (n : Int) := ⟨_, rfl⟩
  have hzn : z < 18446744073709551616 := by omega
  have hz0 : 0 ≤ z := by omega
  rw [← hz] at hl
  by_cases he : e = 0
  · subst he
    rw [if_pos rfl]
    have hlong : long ≤ bs.length := by rcases hc with hc | hc <;> omega
    have HL := Aside0.mk hlong
    have HZ := Aside0.mk hz
    by_cases hp : n % 2 = 1
    · have hp2 : z % 2 = 1 := by omega
      rw [if_pos hp]
      clear h hcut hc h5 hz hp
      go_enter Try.func19, Try.ntmps19
      go_wp2_with (go_at_call 32; refine hl.mono ?_; rintro e w1 ⟨rfl, rfl⟩)
      all_goals go_ret2
      · have h7 := HI.out.2 long HL.out
        have ez := HZ.out
        rw [if_pos (by assumption), show cap - long = 0 by omega] at h7
        refine ⟨?_, h7, Went.cut _⟩
        have ez := HZ.out
        refine congrArg (fun x : Int => Ending.returned (Value.tuple #[.int .i64 x, .int .i64 0])) ?_
        omega
      · have h7 := HI.out.2 long HL.out
        rw [if_neg (by assumption)] at h7
        refine ⟨?_, h7, Went.cut _⟩
        have ez := HZ.out
        refine congrArg (fun x : Int => Ending.returned (Value.tuple #[.int .i64 x, .int .i64 0])) ?_
        omega
    · have hp2 : z % 2 = 0 := by omega
      rw [if_neg hp]
      clear h hcut hc h5 hz hp
      go_enter Try.func19, Try.ntmps19
      go_wp2_with (go_at_call 32; refine hl.mono ?_; rintro e w1 ⟨rfl, rfl⟩)
      all_goals go_ret2
      · have h7 := HI.out.2 long HL.out
        have ez := HZ.out
        rw [if_pos (by assumption), show cap - long = 0 by omega] at h7
        refine ⟨?_, h7, Went.cut _⟩
        have ez := HZ.out
        refine congrArg (fun x : Int => Ending.returned (Value.tuple #[.int .i64 x, .int .i64 0])) ?_
        omega
      · have h7 := HI.out.2 long HL.out
        rw [if_neg (by assumption)] at h7
        refine ⟨?_, h7, Went.cut _⟩
        have ez := HZ.out
        refine congrArg (fun x : Int => Ending.returned (Value.tuple #[.int .i64 x, .int .i64 0])) ?_
        omega
  · rw [if_neg he]
    have heb : (e == 0) = false := by simp [he]
    rcases hc with hc | ⟨_, rfl, rfl⟩
    · exact absurd hc.1 he
    · have hz0 : z = 0 := by rw [hz]; rfl
      subst hz0
      clear h hcut h1 h2 h3 h4 h5 he hz
      go_enter Try.func19, Try.ntmps19
      go_wp2_with (go_at_call 32; refine hl.mono ?_; rintro e w1 ⟨rfl, rfl⟩)
      go_ret2
      exact ⟨rfl, HI.out.1, Went.refl _ _⟩

set_option maxRecDepth 100000 in
set_option maxHeartbeats 8000000 in
theorem left_any (g : Nat) (M : Nat → Prop) (bs : List Int) (w : World) (h : Inn w g M bs) :
    Calls Try.prog 23 #[.pointer (some ⟨g, 0, none⟩)] w fun e w' => e = .returned (.int .i64 bs.length) ∧ w' = w := by
  obtain ⟨A, cap, h1, h2, h3, h4, h5, h6⟩ := h.open_
  clear h5 h
  go_enter Try.func23, Try.ntmps23
  go_wp2
  go_ret
  exact ⟨rfl, rfl⟩

set_option maxRecDepth 100000 in
set_option maxHeartbeats 8000000 in
theorem newin_any (A : Option Addr) (c : Nat) (b : List Int) (w : World) (hC : Kd.C (Kd.int .u8) w A b.length b) (hc : b.length ≤ c) (hb : Bytes b) (hl : b.length ≤ 140737488351232) :
    Calls Try.prog 16 #[.slice A b.length c] w fun e w' => ∃ g, e = .returned (.pointer (some ⟨g, 0, none⟩)) ∧ Inn w' g (fun k => w.heap.size ≤ k ∧ k < g) b ∧ w.heap.size ≤ g ∧ Below w.heap.size w w' := by
  have hcl := clone_any5 A c b w hC hc (by omega)
  have HX := Aside0.mk (And.intro hb hl)
  clear hb hl hC
  go_enter Try.func16, Try.ntmps16
  go_wp2_with (go_at_call 28; refine hcl.mono ?_; rintro e w1 ⟨v, rfl, hv, hbl⟩; obtain ⟨A1, c1, rfl⟩ := own_slice (Kd.own_of_R hv); have HV := Aside0.mk (And.intro hv hbl); clear hv hbl)
  go_ret
  obtain ⟨hv, hbl⟩ := HV.out
  obtain ⟨hb, hl⟩ := HX.out
  have hcap : b.length ≤ c1 ∧ c1 ≤ 9223372036854775807 := by
    refine ⟨(Kd.R_reads' hv).2.1, ?_⟩
    rcases (Kd.own_of_R hv).2 with ⟨e, _⟩ | ⟨g, cap, cur, e, _, _, _, h, _⟩
    · injection e with _ _ e
      omega
    · injection e with _ _ e
      unfold maxLen at h
      omega
  have hF : Kd.F (Kd.int .u8) w1 (fun k => w.heap.size ≤ k ∧ k < w1.heap.size) A1 b.length b := Kd.F_mono (Kd.R_F (Kd.R_bound hv)) (fun k hk => ⟨hk.2.1, hk.2.2.1⟩)
  refine ⟨w1.heap.size, rfl, ⟨hb, A1, c1, World.alloc_heap_new _ _, hcap.1, hcap.2, ?_, fun h => by omega⟩, hbl.size, hbl.alloc hbl.size _⟩
  exact Kd.F_step hF (fun k hk hl => Below.heap_alloc _ _ _ hl)

set_option maxRecDepth 100000 in
set_option maxHeartbeats 8000000 in
theorem getbytes_any (g : Nat) (M : Nat → Prop) (bs : List Int) (w : World) (h : Inn w g M bs) :
    Calls Try.prog 21 #[.pointer (some ⟨g, 0, none⟩)] w fun e w' => ∃ v, e = .returned (.tuple #[v, .int .i64 (getBytes bs).e]) ∧ Kd.R (Kd.int .u8) 5 w' w.heap.size (fun _ => True) v (getBytes bs).v ∧ Inn w' g M (getBytes bs).left ∧ Went (fun k => k = g) w w' := by
  obtain ⟨A, cap, h1, h2, h3, h4, h5, h6⟩ := h.open_
  have hl := innum_any g M bs w h
  have hc := seen_cases h.1
  have HI := Aside0.mk h
  have H1 := Aside0.mk h1
  have H5 := Aside0.mk h5
  unfold getBytes
  generalize seen bs = r at hl hc ⊢
  have HC := Aside0.mk hc
  obtain ⟨n, long, e⟩ := r
  simp only at *
  by_cases he : e = 0
  · subst he
    rw [if_pos rfl]
    have hlong : long ≤ bs.length ∧ long ≤ 10 := by rcases hc with hc | hc <;> omega
    obtain ⟨hlong, hlt⟩ := hlong
    have HL := Aside0.mk hlong
    have hn0 : (0 : Int) ≤ (n : Int) := by omega
    by_cases hb : 4096 < n
    · rw [if_pos hb]
      have hb' : (4096 : Int) < (n : Int) := by omega
      clear h hc h5 hb
      go_enter Try.func21, Try.ntmps21
      go_wp2_with (go_at_call 29; refine hl.mono ?_; rintro e w1 ⟨rfl, rfl⟩)
      go_ret2
      exact ⟨_, rfl, Kd.R_nil _ _ _ _ _, HI.out, Went.refl _ _⟩
    · rw [if_neg hb]
      have hb' : (n : Int) ≤ 4096 := by omega
      have hmax : (bs.length : Int) ≤ 9223372036854775807 := by omega
      have hl10 : (long : Int) ≤ 10 := by omega
      have hll : (long : Int) ≤ (bs.length : Int) := by omega
      by_cases hs : bs.length - long < n
      · rw [if_pos hs]
        have hs' : (bs.length : Int) - (long : Int) < (n : Int) := by omega
        clear h hc h5 hb hs
        go_enter Try.func21, Try.ntmps21
        go_wp2_with (go_at_call 29; refine hl.mono ?_; rintro e w1 ⟨rfl, rfl⟩)
        go_ret2
        exact ⟨_, rfl, Kd.R_nil _ _ _ _ _, HI.out, Went.refl _ _⟩
      · rw [if_neg hs]
        have hs' : (n : Int) ≤ (bs.length : Int) - (long : Int) := by omega
        have hln : long + n ≤ bs.length := by omega
        have hmid := Kd.C_mid (lo := long) (hi := long + n) h5 (by omega) hln h3
        have hml : ((bs.take (long + n)).drop long).length = n := by rw [List.length_drop, List.length_take]; omega
        have e1 : (Kd.int .u8).sz = 1 := rfl
        rw [e1, Nat.mul_one] at hmid
        have hcl := clone_any5 _ (cap - long) _ w hmid (by rw [hml]; omega) (by rw [hml]; omega)
        rw [hml] at hcl
        have HLN := Aside0.mk hln
        clear h hc h5 hmid hml e1 hb hs
        by_cases hcap : cap = long
        · rw [if_pos hcap] at hcl
          have hz : cap - long = 0 := by omega
          rw [hz] at hcl
          clear hz
          go_enter Try.func21, Try.ntmps21
          go_wp2_with (first | (go_at_call 29; refine hl.mono ?_; rintro e w1 ⟨rfl, rfl⟩) | (go_at_call 28; refine hcl.mono ?_; rintro e w2 ⟨v, rfl, hv, hbl⟩; have h11 := hbl.cell (p := ⟨g, 0, none⟩) h6; rw [h1] at h11; have h21 := (hbl.frozen (p := ⟨g, 0, none⟩) h6); rw [h2] at h21; have HV := Aside0.mk (And.intro hv hbl); clear hv hbl))
          go_ret2
          obtain ⟨hv, hbl⟩ := HV.out
          have h7 := (HI.out.below hbl).cut h11 HLN.out
          rw [if_pos (show cap = long + n by omega), show cap - (long + n) = 0 by omega] at h7
          exact ⟨v, rfl, Kd.R_mono (Kd.R_kept (Kd.R_bound hv) (Went.cut _).kept (fun k hk e => by have := hk.2.1; omega)) (fun _ _ => trivial), h7, (Went.of_below hbl (fun _ => False)).trans (Went.cut _) (fun _ h => h.elim) (fun k hk => .inl hk)⟩
        · rw [if_neg hcap] at hcl
          go_enter Try.func21, Try.ntmps21
          go_wp2_with (first | (go_at_call 29; refine hl.mono ?_; rintro e w1 ⟨rfl, rfl⟩) | (go_at_call 28; refine hcl.mono ?_; rintro e w2 ⟨v, rfl, hv, hbl⟩; have h11 := hbl.cell (p := ⟨g, 0, none⟩) h6; rw [h1] at h11; have h21 := (hbl.frozen (p := ⟨g, 0, none⟩) h6); rw [h2] at h21; have HV := Aside0.mk (And.intro hv hbl); clear hv hbl))
          all_goals go_ret2
          · obtain ⟨hv, hbl⟩ := HV.out
            have h7 := (HI.out.below hbl).cut h11 HLN.out
            rw [if_pos (by assumption), show cap - (long + n) = 0 by omega] at h7
            exact ⟨v, rfl, Kd.R_mono (Kd.R_kept (Kd.R_bound hv) (Went.cut _).kept (fun k hk e => by have := hk.2.1; omega)) (fun _ _ => trivial), h7, (Went.of_below hbl (fun _ => False)).trans (Went.cut _) (fun _ h => h.elim) (fun k hk => .inl hk)⟩
          · obtain ⟨hv, hbl⟩ := HV.out
            have h7 := (HI.out.below hbl).cut h11 HLN.out
            rw [if_neg (by assumption)] at h7
            exact ⟨v, rfl, Kd.R_mono (Kd.R_kept (Kd.R_bound hv) (Went.cut _).kept (fun k hk e => by have := hk.2.1; omega)) (fun _ _ => trivial), h7, (Went.of_below hbl (fun _ => False)).trans (Went.cut _) (fun _ h => h.elim) (fun k hk => .inl hk)⟩
  · rw [if_neg he]
    have heb : (e == 0) = false := by simp [he]
    have heb2 : (e != 0) = true := by simp [he]
    rcases hc with hc | ⟨_, rfl, rfl⟩
    · exact absurd hc.1 he
    · clear h h1 h2 h3 h4 h5 he
      go_enter Try.func21, Try.ntmps21
      go_wp2_with (go_at_call 29; refine hl.mono ?_; rintro e w1 ⟨rfl, rfl⟩)
      go_ret2
      exact ⟨_, rfl, Kd.R_nil _ _ _ _ _, HI.out, Went.refl _ _⟩
end Go.Proofs.Ytamgeophebillaa.Code
