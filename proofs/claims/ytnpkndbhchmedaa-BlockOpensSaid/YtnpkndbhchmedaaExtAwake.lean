/- What block.Class comes to; the chapter's example holds: the walk of awake. -/
import Derived.Test.YtnpkndbhchmedaaPureOpen
import Derived.Test.YtnpkndbhchmedaaPb3
namespace Go.Proofs.Ytnpkndbhchmedaa.Ext
set_option linter.unusedVariables false
open Go.RowKit Go.Proofs.Ytnpkndbhchmedaa.Pure Go.Proofs.Ytnpkndbhchmedaa.Pa Go.Proofs.Ytnpkndbhchmedaa.Pb Go.Proofs.YtnpkndbhchmedaaW.PrintWords Go.Proofs.YtnpkndbhchmedaaW.PrintLast Go.Proofs.YtnpkndbhchmedaaW.PrintMore

/-- Of which class what was opened is. -/
def classS (b : Int × Int × Int × Int × Int × List Int × Int) (a0 a1 a2 a3 a4 : Int) : Int :=
  if b.2.2.2.2.2.2 = 0 then (if b.2.1 = a1 ∧ b.2.2.1 = a2 then (if b.1 = a0 ∧ b.2.2.2.1 = a3 ∧ b.2.2.2.2.1 = a4 then 1 else 2) else 3) else 4
theorem class_f {k : Nat} {s : List Int} {a0 a1 a2 a3 a4 : Int} {l : List Int} (hk : 500 < k) (ho : okB s = true) (hs : s.length ≤ 1000) : block_Class.f k s a0 a1 a2 a3 a4 l = some (classS (openS s) a0 a1 a2 a3 a4) := by
  obtain ⟨k, rfl⟩ : ∃ m, k = m + 1 := ⟨k - 1, by omega⟩
  unfold block_Class.f classS
  rw [open_f (by omega) ho hs]
  simp only [Option.bind_some]
  generalize openS s = b
  by_cases h : b.2.2.2.2.2.2 = 0
  · rw [if_pos h, if_pos h]
    by_cases h1 : b.2.1 = a1
    · rw [if_pos h1]
      by_cases h2 : b.2.2.1 = a2
      · have e : (b.2.2.1 != a2) = false := by simpa using h2
        rw [e, if_pos ⟨h1, h2⟩]
        simp only [block_Class.j0, Bool.false_eq_true, if_false]
        by_cases h3 : b.1 = a0
        · rw [if_pos h3]
          by_cases h4 : b.2.2.2.1 = a3
          · rw [if_pos h4]
            by_cases h5 : b.2.2.2.2.1 = a4
            · rw [if_pos h5, if_pos ⟨h3, h4, h5⟩]
            · rw [if_neg h5, if_neg (fun hh => h5 hh.2.2)]
          · rw [if_neg h4, if_neg (fun hh => h4 hh.2.1)]
        · rw [if_neg h3, if_neg (fun hh => h3 hh.1)]
      · have e : (b.2.2.1 != a2) = true := by simpa using h2
        rw [e, if_neg (fun hh => h2 hh.2)]
        simp only [block_Class.j0, if_true]
    · have e : (b.2.1 != a1) = true := by simpa using h1
      rw [if_neg h1, e, if_neg (fun hh => h1 hh.1)]
      simp only [block_Class.j0, if_true]
  · rw [if_neg h, if_neg h]

theorem class_at {n m : Nat} (A0 : Option Addr) (c0 : Nat) (l0 : List Int) (a0 a1 a2 a3 a4 : Int) (A1 : Option Addr) (c1 : Nat) (l1 : List Int) (r : Int) (w : World) (hn : l0.length = n) (hm : l1.length = m) (hr0 : Kd.C (Kd.int .u8) w A0 n l0) (hc0 : n ≤ c0) (hr1 : Kd.C (Kd.int .u8) w A1 m l1) (hc1 : m ≤ c1) (h : block_Class.f 1000 l0 a0 a1 a2 a3 a4 l1 = some r) :
    Calls Try.prog 12 #[.slice A0 n c0, .agg #[.int .i64 a0, .int .i64 a1, .int .i64 a2, .int .i64 a3, .int .i64 a4, .slice A1 m c1]] w fun e w' => e = .returned (.int .i64 r) ∧ Below w.heap.size w w' := by
  subst hn hm
  exact block_Class.calls 1000 A0 c0 l0 a0 a1 a2 a3 a4 A1 c1 l1 r w hr0 hc0 hr1 hc1 h
theorem same_at {n m : Nat} (A0 : Option Addr) (c0 : Nat) (l0 : List Int) (A1 : Option Addr) (c1 : Nat) (l1 : List Int) (r : Bool) (w : World) (hn : l0.length = n) (hm : l1.length = m) (hr0 : Kd.C (Kd.int .u8) w A0 n l0) (hc0 : n ≤ c0) (hr1 : Kd.C (Kd.int .u8) w A1 m l1) (hc1 : m ≤ c1) (h : quartermasterref04_Same.f 1000 l0 l1 = some r) :
    Calls Try.prog 16 #[.slice A0 n c0, .slice A1 m c1] w fun e w' => e = .returned (.bool r) ∧ Drawn0 w w' := by
  subst hn hm
  exact quartermasterref04_Same.calls 1000 A0 c0 l0 A1 c1 l1 r w hr0 hc0 hr1 hc1 h
theorem seal_at {m : Nat} (a0 a1 a2 a3 a4 : Int) (A1 : Option Addr) (c1 : Nat) (l1 : List Int) (r1 : List Int) (r2 : Int) (w : World) (hm : l1.length = m) (hr1 : Kd.C (Kd.int .u8) w A1 m l1) (hc1 : m ≤ c1) (h : block_Seal.f 1000 a0 a1 a2 a3 a4 l1 = some (r1, r2)) :
    Calls Try.prog 14 #[.agg #[.int .i64 a0, .int .i64 a1, .int .i64 a2, .int .i64 a3, .int .i64 a4, .slice A1 m c1]] w fun e w' => ∃ v0_ : Value, e = .returned (.tuple #[v0_, .int .i64 r2]) ∧ Kd.R (Kd.int .u8) 5 w' w.heap.size (fun _ => True) v0_ r1 ∧ Below w.heap.size w w' := by
  subst hm
  exact block_Seal.calls 1000 a0 a1 a2 a3 a4 A1 c1 l1 r1 r2 w hr1 hc1 h
/-- A row of bytes that was just laid reads as its list. -/
theorem C_bytes {W : World} {n g : Nat} {cs : Array Value} (xs : List Int) (hn : xs.length = n) (hg : g = W.heap.size) (hcs : cs = (xs.map (Value.int .u8)).toArray) (hm : n ≤ 9223372036854775807) :
    Kd.C (Kd.int .u8) (W.alloc (.cells cs 5)) (some ⟨g, 0, none⟩) n xs := by
  have := (Kd.R_reads' (own_now (W := W) (base := W.heap.size) xs hn hg hcs (Nat.le_refl _) hm)).2.2
  rwa [hn] at this

def quartermasterlaw07_awake.f : Option Bool := some true
set_option maxRecDepth 100000 in
set_option maxHeartbeats 4000000 in
theorem quartermasterlaw07_awake.calls (r : Bool) (w : World) (h : quartermasterlaw07_awake.f = some r) :
    Calls Try.prog 8 #[] w fun e w' => e = .returned (.bool r) ∧ Below w.heap.size w w' := by
  obtain rfl := Option.some.inj h
  clear h
  have hn : numS 3 1 2 3 4 = true := by decide
  obtain ⟨S, hS⟩ : ∃ S, S = sealT 3 1 2 3 4 [9] := ⟨_, rfl⟩
  have q1 : block_Seal.f 1000 3 1 2 3 4 [9] = some (S, 0) := by
    rw [seal_blk (by omega) (by rfl), sealS_ok (by decide), if_pos hn, hS]
  have hlen : S.length = 256 := by rw [hS]; exact sealT_length (by decide)
  have hoS : okB S = true := by rw [hS]; exact okB_sealT (by rfl)
  have q2 : quartermasterref04_Same.f 1000 (S.take 25) [81, 77, 3, 0, 1, 0, 0, 0, 2, 0, 0, 0, 3, 0, 0, 0, 4, 0, 0, 0, 1, 0, 0, 0, 9] = some true := by
    rw [same_f (by rw [List.length_take]; omega) (by rw [List.length_take]; omega)]
    have e : S.take 25 = [81, 77, 3, 0, 1, 0, 0, 0, 2, 0, 0, 0, 3, 0, 0, 0, 4, 0, 0, 0, 1, 0, 0, 0, 9] := by
      rw [hS]; unfold sealT sealB bodyS
      rw [List.append_assoc, List.take_append_of_le_length (by rw [List.length_append, headS_length]; decide)]
      rfl
    rw [e]; rfl
  have q3 : block_Class.f 1000 S 3 1 2 3 4 [] = some 1 := by
    rw [class_f (by omega) hoS (by omega), hS, open_seal hn (by decide)]; rfl
  have q4 : block_Class.f 1000 [] 0 0 0 0 0 [] = some 4 := by
    rw [class_f (by omega) (by rfl) (by decide)]; rfl
  have Q1 := Aside0.mk q1
  have Q2 := Aside0.mk q2
  have Q3 := Aside0.mk q3
  have Q4 := Aside0.mk q4
  have HL := Aside0.mk hlen
  clear q1 q2 q3 q4 hlen hoS hS hn
  go_enter Try.func8, Try.ntmps8
  go_wp2_with fail
  refine (seal_at (m := 1) 3 1 2 3 4 _ _ [9] S 0 _ rfl (C_bytes [9] rfl rfl rfl (by decide)) (Nat.le_refl _) Q1.out).mono ?_
  rintro e w1 ⟨v1, rfl, hv1, hb1⟩
  have HB1 := Aside0.mk (below_then (below_alloc (Below.refl _ _) _) (by simp) hb1)
  obtain ⟨A1, c1, rfl, hlc1, hC1⟩ := Kd.R_reads hv1
  rw [HL.out] at hlc1 hC1 ⊢
  have HC1 := Aside0.mk hC1
  clear hb1 hv1 hC1
  go_wp2_with fail
  have ht : (S.take 25).length = 25 := by rw [List.length_take, HL.out]; rfl
  have hC1' : Kd.C (Kd.int .u8) w1 A1 S.length S := by rw [HL.out]; exact HC1.out
  have hC25 := Kd.C_take (m := 25) hC1' (by rw [HL.out]; decide)
  rw [ht] at hC25
  refine (same_at (n := 25) (m := 25) A1 c1 (S.take 25) _ 25 [81, 77, 3, 0, 1, 0, 0, 0, 2, 0, 0, 0, 3, 0, 0, 0, 4, 0, 0, 0, 1, 0, 0, 0, 9] true _ ht rfl (Kd.C_alloc hC25 _) (by omega) (C_bytes [81, 77, 3, 0, 1, 0, 0, 0, 2, 0, 0, 0, 3, 0, 0, 0, 4, 0, 0, 0, 1, 0, 0, 0, 9] rfl rfl rfl (by decide)) (Nat.le_refl _) Q2.out).mono ?_
  rintro e w2 ⟨rfl, hd2⟩
  have HB2 : Aside0 (Below w.heap.size w w2) := ⟨by obtain ⟨nd, rfl⟩ := hd2; exact pw_below_drewN (below_alloc HB1.out _) nd⟩
  have HC2 : Aside0 (Kd.C (Kd.int .u8) w2 A1 256 S) := ⟨by obtain ⟨nd, rfl⟩ := hd2; exact Kd.C_drewN (Kd.C_alloc HC1.out _) nd⟩
  clear hd2 ht hC1' hC25
  go_wp2_with fail
  refine (class_at (n := 256) (m := 0) A1 c1 S 3 1 2 3 4 none 0 [] 1 w2 HL.out rfl HC2.out hlc1 (Kd.C_nil _ _) (Nat.le_refl _) Q3.out).mono ?_
  rintro e w3 ⟨rfl, hb3⟩
  have HB3 := Aside0.mk (below_then HB2.out HB2.out.size hb3)
  clear hb3
  go_wp2_with fail
  refine (class_at (n := 0) (m := 0) none 0 [] 0 0 0 0 0 none 0 [] 4 w3 rfl rfl (Kd.C_nil _ _) (Nat.le_refl _) (Kd.C_nil _ _) (Nat.le_refl _) Q4.out).mono ?_
  rintro e w4 ⟨rfl, hb4⟩
  have HB4 := Aside0.mk (below_then HB3.out HB3.out.size hb4)
  clear hb4
  go_wp2
  go_ret
  exact ⟨rfl, HB4.out⟩
end Go.Proofs.Ytnpkndbhchmedaa.Ext
