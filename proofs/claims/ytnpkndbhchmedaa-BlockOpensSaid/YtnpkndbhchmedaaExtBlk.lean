/- What bytes.Clone and block.Seal come to: rows laid by literals, numbers laid behind bytes, and copies into a row of one's own. -/
import Derived.Test.YtnpkndbhchmedaaPa1
import Derived.Test.YtnpkndbhchmedaaExtSeal
import Derived.WalkSpells
import Derived.RegionTactic
import Derived.ChangeAlike
namespace Go.Proofs.Ytnpkndbhchmedaa.Ext
set_option linter.unusedVariables false
open Go.RowKit Go.Proofs.YtnpkndbhchmedaaW.PrintWords Go.Proofs.YtnpkndbhchmedaaW.PrintLast Go.Proofs.YtnpkndbhchmedaaW.PrintMore

/-- A copy into a part of a row of one's own, which has room for it. -/
theorem copy_cut {w0 W : World} (base g n cap o dLen dCap m c : Nat) (A : Option Addr) (xs ys : List Int) (ok : Nat → Prop)
    (HO : Kd.R (Kd.int .u8) 5 W base ok (.slice (some ⟨g, 0, none⟩) n cap) xs) (HR : Kd.C (Kd.int .u8) W A m ys) (HB : Below base w0 W) (hbase : base ≤ W.heap.size) (ho : o + m ≤ xs.length) (hd : m ≤ dLen) :
    ∃ w1, (∀ ty, (Builtin.copy_ #[22, 22] ty #[.slice (some ⟨g, o, none⟩) dLen dCap, .slice A m c]).run Try.prog W = .ok (goInt (m : Int)) w1) ∧
      Kd.R (Kd.int .u8) 5 w1 base ok (.slice (some ⟨g, 0, none⟩) n cap) (xs.take o ++ ys ++ xs.drop (o + m)) ∧ Below base w0 w1 := by
  have hinfo : (Try.prog.info? 5).map (·.size) = some 1 := by kernel_rfl
  have hR := Kd.reads_of_C (d := (0 : Int)) (h1 := fun _ => rfl) HR
  have hm : ys.length = m := hR.1
  have hown := Kd.own_of_R HO
  rcases Nat.eq_zero_or_pos m with h0 | hp
  · subst h0
    obtain rfl : ys = [] := List.eq_nil_of_length_eq_zero hm
    refine ⟨W, fun ty => ?_, ?_, HB⟩
    · exact run_copy_none W 22 22 ty 5 _ A dLen dCap 0 c Try.underlying22 hinfo (by simp)
    · simpa using HO
  · obtain ⟨ad, rfl, hc⟩ := hR.2.2 (by omega)
    rcases hown.2 with ⟨_, hx0⟩ | ⟨g', cap', cur, hv, hb, hh, hnc, hcm, hcs, htake⟩
    · omega
    obtain ⟨rfl, rfl, rfl⟩ : g = g' ∧ n = xs.length ∧ cap = cap' := by
      injection hv with h1 h2 h3
      injection h1 with h4
      injection h4 with h5
      exact ⟨h5, h2, h3⟩
    have hcs1 : cur.size = cap := by omega
    have hl : (encs (Value.int .u8) ys).length = m := by rw [encs_length, hm]
    have hsrc : ∀ j u, (encs (Value.int .u8) ys)[j]? = some u → W.cell? (ad.add j) = some u := by
      intro j u hu
      have hj : j < ys.length := by
        rcases Nat.lt_or_ge j ys.length with h | h
        · exact h
        · rw [List.getElem?_eq_none (by rw [encs_length]; exact h)] at hu; cases hu
      rw [encs_get (d := (0 : Int)) _ j hj] at hu
      rw [hc j (by omega), ← hu]
    have hrun := fun ty => run_copy_row (P := Try.prog) W 22 22 ty 5 g o dLen dCap ad m c cur 5 (encs (Value.int .u8) ys) Try.underlying22 hinfo hh (by rw [hl]; exact (Nat.min_eq_left hd).symm) hsrc (by rw [hl]; omega)
      (by intro u hu; simp only [encs, List.mem_map] at hu; obtain ⟨q, _, rfl⟩ := hu; rfl)
    rw [hl] at hrun
    refine ⟨_, hrun, Kd.R_of_own ?_ HO.1, HB.grown (row := some g) ⟨rfl, rfl, rfl, by simp, fun k hk hne => setRow_other _ _ _ _ (fun e => hne (by rw [e]))⟩ hbase (fun k hk => by cases hk; exact hb)⟩
    have hln : (xs.take o ++ ys ++ xs.drop (o + m)).length = xs.length := by simp; omega
    rw [hln]
    refine ⟨by rw [encs_length, hln, Nat.mul_one], .inr ⟨g, cap, _, rfl, hb, setRow_heap _ _ _ _ _ _ hh, hnc, hcm, ?_, ?_⟩⟩
    · simp [hl]; omega
    · have htk : cur.toList.take xs.length = encs (Value.int .u8) xs := by rw [← htake, Nat.mul_one]
      have e1 : cur.toList.take o = encs (Value.int .u8) (xs.take o) := by
        have : (cur.toList.take xs.length).take o = cur.toList.take o := by rw [List.take_take, Nat.min_eq_left (by omega)]
        rw [← this, htk]; simp [encs]
      have e2 : (cur.toList.drop (o + m)).take (xs.length - (o + m)) = encs (Value.int .u8) (xs.drop (o + m)) := by
        have : (cur.toList.take xs.length).drop (o + m) = (cur.toList.drop (o + m)).take (xs.length - (o + m)) := List.drop_take
        rw [← this, htk]; simp [encs]
      rw [Nat.mul_one, encs_append, encs_append, ← e1, ← e2]
      have hlen1 : (cur.toList.take o).length = o := by simp; omega
      show List.take xs.length (cur.toList.take o ++ encs (Value.int .u8) ys ++ cur.toList.drop (o + m)) = _
      rw [List.take_append, List.take_of_length_le (by simp [hl]; omega)]
      congr 2
      simp [hl, hlen1]

/-- A row of bytes that was just laid, as one's own. -/
theorem own_now {W : World} {base n g : Nat} {cs : Array Value} (xs : List Int) (hn : xs.length = n) (hg : g = W.heap.size) (hcs : cs = (xs.map (Value.int .u8)).toArray) (hb : base ≤ W.heap.size) (hm : n ≤ 9223372036854775807) :
    Kd.R (Kd.int .u8) 5 (W.alloc (.cells cs 5)) base (fun _ => True) (.slice (some ⟨g, 0, none⟩) n n) xs := by
  subst hn hg hcs
  exact Kd.R_of_own (by
    have h := World.ownsRow_lit (base := base) (e := 5) (size := 1) W (xs.map (Value.int .u8)).toArray xs.length hb (by simpa [maxLen] using hm) (by simp)
    simpa [encs] using h) (fun _ _ => trivial)
/-- A row of numbers that was just laid reads as its list. -/
theorem C_nums {W : World} {g n : Nat} (xs : List Int) (hn : xs.length = n) (hm : n ≤ 9223372036854775807) (hb : W.heap[g]? = some (.cells (xs.map (Value.int .i64)).toArray 3 (0, 0))) :
    Kd.C (Kd.int .i64) W (some ⟨g, 0, none⟩) n xs := by
  subst hn
  refine Kd.C_of_reads (d := (0 : Int)) (h1 := fun _ => rfl) ⟨rfl, hm, fun _ => ⟨_, rfl, fun j hj => ?_⟩⟩
  rw [add_plain, cell_of_row _ _ _ _ _ _ hb]
  simp [hj]
theorem lay_at {W : World} {w0 : World} {n g : Nat} {cs : Array Value} (k : Nat) (s : Value) (l0 l2 : List Int) (a1 : Int) (r : List Int) (hn : l2.length = n) (hg : g = W.heap.size) (hcs : cs = (l2.map (Value.int .i64)).toArray) (hm : n ≤ 9223372036854775807) (hB : Below w0.heap.size w0 W) (hs : Kd.R (Kd.int .u8) 5 W w0.heap.size (fun _ => True) s l0) (h : Pa.block_lay.f k l0 a1 l2 = some r) :
    Calls Try.prog 25 #[s, .int .i64 a1, .slice (some ⟨g, 0, none⟩) n n] (W.alloc (.cells cs 3)) fun e w' => ∃ v, e = .returned v ∧ Kd.R (Kd.int .u8) 5 w' w0.heap.size (fun _ => True) v r ∧ Below w0.heap.size w0 w' := by
  subst hn hg hcs
  refine (Pa.block_lay.calls k (fun k_ => k_ < W.heap.size) s l0 a1 (some ⟨W.heap.size, 0, none⟩) l2.length l2 r w0 _ (below_alloc hB _) (Kd.R_mono (Kd.R_alloc (Kd.R_bound hs) _) (fun _ hk => hk.2.2.1)) (fun W_ hk => C_nums l2 rfl hm (blk_kept (heap_alloc_new W _) hk (Nat.lt_irrefl _))) (Nat.le_refl _) h).mono ?_
  rintro e w' ⟨v, rfl, hv, hb, _⟩
  exact ⟨v, rfl, Kd.R_mono hv (fun _ _ => trivial), hb⟩

theorem R_empty {α : Type} (d : Kd α) (e : Nat) (w : World) : d.R e (w.alloc (.cells #[] e)) w.heap.size (fun _ => True) (.slice (some ⟨w.heap.size, 0, none⟩) 0 0) [] :=
  ⟨fun _ _ => trivial, [], ⟨by simp, .inr ⟨w.heap.size, 0, #[], rfl, Nat.le_refl _, heap_alloc_new w _, Nat.le_refl _, by simp [maxLen], by simp, by simp⟩⟩, Reps.none _ _⟩
set_option maxRecDepth 100000 in
set_option maxHeartbeats 2000000 in
theorem clone_any5 (A0 : Option Addr) (c0 : Nat) (l0 : List Int) (w : World) (hr0 : Kd.C (Kd.int .u8) w A0 l0.length l0) (hc0 : l0.length ≤ c0) (hl : l0.length * 1 ≤ 140737488355328) :
    Calls Try.prog 21 #[.slice A0 l0.length c0] w fun e w' => ∃ v, e = .returned v ∧ Kd.R (Kd.int .u8) 5 w' w.heap.size (fun _ => True) v l0 ∧ Below w.heap.size w w' := by
  have HR := Aside0.mk hr0
  have HL := Aside0.mk hl
  cases A0 with
  | none =>
    have he : l0 = [] := by
      cases l0 with
      | nil => rfl
      | cons x r => obtain ⟨ad, h, _⟩ := hr0.2.2 (by simp); cases h
    subst he
    clear hr0 hl
    have kn := fun (w : World) (a : Option Addr) (n c : Nat) => Lib.run_eql_slice_nil (P := Try.prog) w 22 5 a n c 0 0 Try.underlying22
    go_enter Try.func21, Try.ntmps21
    go_wp2
    go_ret
    exact ⟨_, rfl, Kd.R_nil _ _ _ _ _, Below.refl _ _⟩
  | some ad =>
    clear hr0 hl
    have kn := fun (w : World) (a : Option Addr) (n c : Nat) => Lib.run_eql_slice_nil (P := Try.prog) w 22 5 a n c 0 0 Try.underlying22
    go_enter Try.func21, Try.ntmps21
    go_wp2_with ((with_reducible refine gate_builtin (b := .append) (xs := #[.tmp 5, .tmp 6]) rfl ?_); at_builtin; refine Kd.R_append_rows (Kd.int .u8) (w0 := w) w.heap.size rfl (.tmp 5) (.tmp 6) 22 5 (.int .u8 0) 1 rfl Try.underlying22 infoE5 rfl (by decide) (by omega) _ [] l0 _ _ _ (fun _ => True) (fun _ => False) rfl rfl ?aO ?aR (fun _ _ h => h) (fun _ h => h.elim) ?aF ?aB ?aS ?aL ?_; (case aF => exact fun _ _ => trivial); (case aO => exact R_empty _ _ _); (case aR => exact Kd.C_alloc HR.out _); (case aB => exact below_alloc (Below.refl _ _) _); (case aS => simp); (case aL => have := HL.out; simp; omega); intro v1 w2 ho hb hg hat; have HO := Aside0.mk ho; have HB2 := Aside0.mk hb; clear ho hb hg hat)
    go_ret
    exact ⟨_, rfl, HO.out, HB2.out⟩

def bytes_Clone.f (l0 : List Int) : Option (List Int) := if l0.length ≤ 4398046511104 then some l0 else none
theorem bytes_Clone.calls (A0 : Option Addr) (c0 : Nat) (l0 : List Int) (r : List Int) (w : World) (hr0 : Kd.C (Kd.int .u8) w A0 l0.length l0) (hc0 : l0.length ≤ c0) (h : bytes_Clone.f l0 = some r) :
    Calls Try.prog 21 #[.slice A0 l0.length c0] w fun e w' => ∃ v0_ : Value, e = .returned (v0_) ∧ Kd.R (Kd.int .u8) 5 w' w.heap.size (fun _ => True) v0_ r ∧ Below w.heap.size w w' := by
  unfold bytes_Clone.f at h
  by_cases hl : l0.length ≤ 4398046511104
  case neg => rw [if_neg hl] at h; cases h
  rw [if_pos hl] at h
  obtain rfl := Option.some.inj h
  exact clone_any5 A0 c0 l0 w hr0 hc0 (by omega)

/-- What is sealed: the numbers' bytes, the block's, and noughts. -/
def bodyS (s l : List Int) : List Int := s ++ l ++ List.replicate (228 - l.length) 0
theorem copy_list (z : Int) (s l : List Int) (hs : s.length = 24) (hl : l.length ≤ 228) :
    ((((List.replicate 252 z).take 0 ++ s ++ (List.replicate 252 z).drop (0 + s.length)).take 24) ++ l ++ ((List.replicate 252 z).take 0 ++ s ++ (List.replicate 252 z).drop (0 + s.length)).drop (24 + l.length)) = s ++ l ++ List.replicate (228 - l.length) z := by
  have e1 : (List.replicate 252 z).take 0 ++ s ++ (List.replicate 252 z).drop (0 + s.length) = s ++ List.replicate 228 z := by rw [hs, List.take_zero, List.nil_append, List.drop_replicate]
  rw [e1, List.take_append, List.drop_append, hs]
  rw [List.take_of_length_le (by omega), List.drop_of_length_le (by omega)]
  have e2 : 24 + l.length - 24 = l.length := by omega
  rw [e2, List.take_replicate, List.drop_replicate, show min (24 - 24) 228 = 0 from rfl]
  simp only [List.replicate_zero, List.append_nil, List.nil_append]
def block_Seal.f (k : Nat) (a0_0 : Int) (a0_1 : Int) (a0_2 : Int) (a0_3 : Int) (a0_4 : Int) (l0_5 : List Int) : Option (List Int × Int) :=
  (Pa.block_numbers.f k a0_0 a0_1 a0_2 a0_3 a0_4 l0_5).bind fun t => if t = true then (if (l0_5.length : Int) > 228 then some ([], 2) else
    (Pa.block_lay.f k [81, 77, a0_0 % 256, 0] 4 [a0_1, a0_2, a0_3, a0_4]).bind fun s => (Pa.block_lay.f k s 2 [(l0_5.length : Int), 0]).bind fun s2 =>
      if s2.length = 24 then (crc_Seal.f (bodyS s2 l0_5)).bind fun r => some (r, 0) else none) else some ([], 1)
theorem crc_Seal_at (A0 : Option Addr) (n c0 : Nat) (l0 : List Int) (r : List Int) (w : World) (hn : l0.length = n) (hr0 : Kd.C (Kd.int .u8) w A0 n l0) (hc0 : n ≤ c0) (h : crc_Seal.f l0 = some r) :
    Calls Try.prog 26 #[.slice A0 n c0] w fun e w' => ∃ v0_ : Value, e = .returned (v0_) ∧ Kd.R (Kd.int .u8) 5 w' w.heap.size (fun _ => True) v0_ r ∧ Below w.heap.size w w' := by
  subst hn
  exact crc_Seal.calls A0 c0 l0 r w hr0 hc0 h
theorem block_Seal.mono (a0_0 a0_1 a0_2 a0_3 a0_4 : Int) (l0_5 : List Int) (k : Nat) : LeO (block_Seal.f k a0_0 a0_1 a0_2 a0_3 a0_4 l0_5) (block_Seal.f (k + 1) a0_0 a0_1 a0_2 a0_3 a0_4 l0_5) := by
  unfold block_Seal.f
  refine LeO.bind (Pa.block_numbers.mono _ _ _ _ _ _ _) (fun _ => LeO.ite (LeO.ite (LeO.refl _) (LeO.bind (Pa.block_lay.mono _ _ _ _) (fun _ => LeO.bind (Pa.block_lay.mono _ _ _ _) (fun _ => LeO.refl _)))) (LeO.refl _))
set_option maxRecDepth 100000 in
set_option maxHeartbeats 4000000 in
theorem block_Seal.calls (k : Nat) (a0_0 : Int) (a0_1 : Int) (a0_2 : Int) (a0_3 : Int) (a0_4 : Int) (A0_5 : Option Addr) (c0_5 : Nat) (l0_5 : List Int) (r1 : List Int) (r2 : Int) (w : World) (hr0_5 : Kd.C (Kd.int .u8) w A0_5 l0_5.length l0_5) (hc0_5 : l0_5.length ≤ c0_5) (h : block_Seal.f k a0_0 a0_1 a0_2 a0_3 a0_4 l0_5 = some (r1, r2)) :
    Calls Try.prog 14 #[.agg #[.int .i64 a0_0, .int .i64 a0_1, .int .i64 a0_2, .int .i64 a0_3, .int .i64 a0_4, .slice A0_5 l0_5.length c0_5]] w fun e w' => ∃ v0_ : Value, e = .returned (.tuple #[v0_, .int .i64 r2]) ∧ Kd.R (Kd.int .u8) 5 w' w.heap.size (fun _ => True) v0_ r1 ∧ Below w.heap.size w w' := by
  have hu24 := Try.underlying24
  have hmax : l0_5.length ≤ 9223372036854775807 := Kd.C_max hr0_5
  have HR := Aside0.mk hr0_5
  have HC := Aside0.mk hc0_5
  unfold block_Seal.f at h
  obtain ⟨t, hnum, h⟩ := Option.bind_eq_some_iff.mp h
  have HN := Aside0.mk hnum
  clear hnum hr0_5 hc0_5
  obtain ⟨W1, hW1⟩ : ∃ W1, W1 = w.alloc (.cells #[.int .i64 a0_0, .int .i64 a0_1, .int .i64 a0_2, .int .i64 a0_3, .int .i64 a0_4, .slice A0_5 l0_5.length c0_5] 24) := ⟨_, rfl⟩
  have HB1 : Aside0 (Below w.heap.size w W1) := ⟨by rw [hW1]; exact below_alloc (Below.refl _ _) _⟩
  have BK1 : Aside0 (W1.heap[w.heap.size]? = some (.cells #[.int .i64 a0_0, .int .i64 a0_1, .int .i64 a0_2, .int .i64 a0_3, .int .i64 a0_4, .slice A0_5 l0_5.length c0_5] 24 (0, 0))) := ⟨by rw [hW1]; exact heap_alloc_new w _⟩
  have CR1 := Aside0.mk (Kd.C_below HR.out HB1.out)
  have z1_0 : W1.cell? ⟨w.heap.size, 0, none⟩ = some (.int .i64 a0_0) := (blk_cell BK1.out 0).trans rfl
  have z1_1 : W1.cell? ⟨w.heap.size, 1, none⟩ = some (.int .i64 a0_1) := (blk_cell BK1.out 1).trans rfl
  have z1_2 : W1.cell? ⟨w.heap.size, 2, none⟩ = some (.int .i64 a0_2) := (blk_cell BK1.out 2).trans rfl
  have z1_3 : W1.cell? ⟨w.heap.size, 3, none⟩ = some (.int .i64 a0_3) := (blk_cell BK1.out 3).trans rfl
  have z1_4 : W1.cell? ⟨w.heap.size, 4, none⟩ = some (.int .i64 a0_4) := (blk_cell BK1.out 4).trans rfl
  have z1_5 : W1.cell? ⟨w.heap.size, 5, none⟩ = some (.slice A0_5 l0_5.length c0_5) := (blk_cell BK1.out 5).trans rfl
  have HW1 := Aside0.mk hW1
  clear hW1
  go_enter Try.func14, Try.ntmps14
  go_wp2_with fail
  rw [← HW1.out]
  go_wp2_with fail
  refine (Pa.block_numbers.calls k a0_0 a0_1 a0_2 a0_3 a0_4 A0_5 c0_5 l0_5 t W1 CR1.out HC.out HN.out).mono ?_
  rintro e w2 ⟨rfl, hb2⟩
  have BK2 := Aside0.mk (blk_below BK1.out hb2)
  have HB2 := Aside0.mk hb2
  clear hb2
  have HBw := Aside0.mk (below_then HB1.out HB1.out.size HB2.out)
  have CR2 := Aside0.mk (Kd.C_below CR1.out HB2.out)
  have z2_0 : w2.cell? ⟨w.heap.size, 0, none⟩ = some (.int .i64 a0_0) := (blk_cell BK2.out 0).trans rfl
  have z2_1 : w2.cell? ⟨w.heap.size, 1, none⟩ = some (.int .i64 a0_1) := (blk_cell BK2.out 1).trans rfl
  have z2_2 : w2.cell? ⟨w.heap.size, 2, none⟩ = some (.int .i64 a0_2) := (blk_cell BK2.out 2).trans rfl
  have z2_3 : w2.cell? ⟨w.heap.size, 3, none⟩ = some (.int .i64 a0_3) := (blk_cell BK2.out 3).trans rfl
  have z2_4 : w2.cell? ⟨w.heap.size, 4, none⟩ = some (.int .i64 a0_4) := (blk_cell BK2.out 4).trans rfl
  have z2_5 : w2.cell? ⟨w.heap.size, 5, none⟩ = some (.slice A0_5 l0_5.length c0_5) := (blk_cell BK2.out 5).trans rfl
  clear z1_0 z1_1 z1_2 z1_3 z1_4 z1_5
  cases t with
  | false =>
    rw [if_neg (by decide)] at h
    obtain ⟨rfl, rfl⟩ := Prod.mk.inj (Option.some.inj h)
    clear h
    go_wp2
    go_ret2
    exact ⟨_, rfl, Kd.R_nil _ _ _ _ _, HBw.out⟩
  | true =>
    rw [if_pos rfl] at h
    by_cases hl : (l0_5.length : Int) > 228
    · rw [if_pos hl] at h
      obtain ⟨rfl, rfl⟩ := Prod.mk.inj (Option.some.inj h)
      clear h
      have hd : decide ((228 : Int) < (l0_5.length : Int)) = true := decide_eq_true hl
      clear hl
      go_wp2
      go_ret2
      exact ⟨_, rfl, Kd.R_nil _ _ _ _ _, HBw.out⟩
    · rw [if_neg hl] at h
      have hd : decide ((228 : Int) < (l0_5.length : Int)) = false := decide_eq_false hl
      obtain ⟨s, h1, h⟩ := Option.bind_eq_some_iff.mp h
      obtain ⟨s2, h2, h⟩ := Option.bind_eq_some_iff.mp h
      by_cases hs : s2.length = 24
      case neg => rw [if_neg hs] at h; cases h
      rw [if_pos hs] at h
      obtain ⟨r, h3, h⟩ := Option.bind_eq_some_iff.mp h
      obtain ⟨rfl, rfl⟩ := Prod.mk.inj (Option.some.inj h)
      have H1 := Aside0.mk h1
      have H2 := Aside0.mk h2
      have H3 := Aside0.mk h3
      have HS := Aside0.mk hs
      have HL : Aside0 (l0_5.length ≤ 228) := ⟨by omega⟩
      clear h h1 h2 h3 hs hl
      have z2a_1 : (w2.alloc (.cells #[.int .u8 81, .int .u8 77, .int .u8 (a0_0 % 256), .int .u8 0] 5)).cell? ⟨w.heap.size, 1, none⟩ = some (.int .i64 a0_1) := (blk_cell (blk_alloc BK2.out _) 1).trans rfl
      have z2a_2 : (w2.alloc (.cells #[.int .u8 81, .int .u8 77, .int .u8 (a0_0 % 256), .int .u8 0] 5)).cell? ⟨w.heap.size, 2, none⟩ = some (.int .i64 a0_2) := (blk_cell (blk_alloc BK2.out _) 2).trans rfl
      have z2a_3 : (w2.alloc (.cells #[.int .u8 81, .int .u8 77, .int .u8 (a0_0 % 256), .int .u8 0] 5)).cell? ⟨w.heap.size, 3, none⟩ = some (.int .i64 a0_3) := (blk_cell (blk_alloc BK2.out _) 3).trans rfl
      have z2a_4 : (w2.alloc (.cells #[.int .u8 81, .int .u8 77, .int .u8 (a0_0 % 256), .int .u8 0] 5)).cell? ⟨w.heap.size, 4, none⟩ = some (.int .i64 a0_4) := (blk_cell (blk_alloc BK2.out _) 4).trans rfl
      go_wp2_with fail
      refine (lay_at (n := 4) (w0 := W1) (W := w2.alloc (.cells #[.int .u8 81, .int .u8 77, .int .u8 (a0_0 % 256), .int .u8 0] 5)) k _ [81, 77, a0_0 % 256, 0] [a0_1, a0_2, a0_3, a0_4] 4 s rfl (by simp) rfl (by decide) (below_alloc HB2.out _) (own_now (n := 4) _ rfl rfl rfl HB2.out.size (by decide)) H1.out).mono ?_
      rintro e w3 ⟨v3, rfl, hv3, hb3⟩
      have HV3 := Aside0.mk hv3
      have HB3 := Aside0.mk hb3
      have BK3 := Aside0.mk (blk_below BK1.out hb3)
      have z3_5 : w3.cell? ⟨w.heap.size, 5, none⟩ = some (.slice A0_5 l0_5.length c0_5) := (blk_cell BK3.out 5).trans rfl
      clear hv3 hb3 z2a_1 z2a_2 z2a_3 z2a_4 z2_0 z2_1 z2_2 z2_3 z2_4 z2_5
      go_wp2_with fail
      refine (lay_at (n := 2) (w0 := W1) (W := w3) k v3 s [(l0_5.length : Int), 0] 2 s2 rfl rfl rfl (by decide) HB3.out HV3.out H2.out).mono ?_
      rintro e w4 ⟨v4, rfl, hv4, hb4⟩
      have HV4 := Aside0.mk hv4
      have HB4 := Aside0.mk hb4
      clear hv4 hb4 z3_5
      obtain ⟨A4, c4, rfl, hlc4, hC4⟩ := Kd.R_reads HV4.out
      rw [HS.out] at hlc4 hC4 ⊢
      obtain ⟨Z, hZ⟩ : ∃ Z, Z = madeCells #[Value.int .u8 0] 252 := ⟨_, rfl⟩
      have hmk : (Instr.makeSlice 22 (.int .i64 252) (.int .i64 252)).run Try.prog w4 = .ok (.slice (some ⟨w4.heap.size, 0, none⟩) 252 252) (w4.alloc (.cells Z 5)) := by
        rw [hZ]; exact print_make 22 5 .u8 1 Try.underlying22 (by kernel_rfl) (by decide) 252 (by decide) w4
      have HO5 : Kd.R (Kd.int .u8) 5 (w4.alloc (.cells Z 5)) W1.heap.size (fun _ => True) (.slice (some ⟨w4.heap.size, 0, none⟩) 252 252) (List.replicate 252 (0 : Int)) := by
        rw [hZ]
        have := own_made w4 W1.heap.size 5 .u8 252 HB4.out.size (by decide)
        refine Kd.R_of_own ?_ (fun _ _ => trivial)
        rw [List.length_replicate]
        exact this
      clear hZ
      obtain ⟨w5, hrun5, HO6, HB5⟩ := copy_cut (w0 := W1) (W := w4.alloc (.cells Z 5)) W1.heap.size w4.heap.size 252 252 0 252 252 24 c4 A4 (List.replicate 252 (0 : Int)) s2 (fun _ => True) HO5 (Kd.C_alloc hC4 _) (below_alloc HB4.out _) (below_alloc HB4.out _).size (by rw [List.length_replicate]; omega) (by omega)
      have hln6 : ((List.replicate 252 (0 : Int)).take 0 ++ s2 ++ (List.replicate 252 (0 : Int)).drop (0 + 24)).length = 252 := by
        rw [List.length_append, List.length_append, List.length_take, List.length_drop, List.length_replicate, HS.out]; rfl
      obtain ⟨w6, hrun6, HO7, HB6⟩ := copy_cut (w0 := W1) (W := w5.drew) W1.heap.size w4.heap.size 252 252 24 228 228 l0_5.length c0_5 A0_5 _ l0_5 (fun _ => True) (Kd.R_drew HO6) (Kd.C_drew (Kd.C_below CR1.out HB5)) (below_drew1 HB5) HB5.size (by rw [hln6]; have := HL.out; omega) HL.out
      have hbody : ((((List.replicate 252 (0 : Int)).take 0 ++ s2 ++ (List.replicate 252 (0 : Int)).drop (0 + 24)).take 24) ++ l0_5 ++ ((List.replicate 252 (0 : Int)).take 0 ++ s2 ++ (List.replicate 252 (0 : Int)).drop (0 + 24)).drop (24 + l0_5.length)) = bodyS s2 l0_5 := by
        have := copy_list 0 s2 l0_5 HS.out HL.out
        rw [HS.out] at this
        exact this
      rw [hbody] at HO7
      have hC7 := (Kd.R_reads' HO7).2.2
      have hln7 : (bodyS s2 l0_5).length = 252 := by unfold bodyS; rw [List.length_append, List.length_append, List.length_replicate, HS.out]; have := HL.out; omega
      rw [hln7] at hC7
      have HLN := Aside0.mk hln7
      have BK5 := blk_below BK1.out HB5
      have z5_5 : w5.cell? ⟨w.heap.size, 5, none⟩ = some (.slice A0_5 l0_5.length c0_5) := (blk_cell BK5 5).trans rfl
      have HC7 := Aside0.mk hC7
      have HHB6 := Aside0.mk HB6
      clear hln7 hbody hln6 HO6 HO7 HB5 HB6 BK5 hC7 hC4 hlc4 HO5
      go_wp2_with fail
      go_region
      go_wp2_with fail
      refine (crc_Seal_at (some ⟨w4.heap.size, 0, none⟩) 252 252 (bodyS s2 l0_5) r w6 HLN.out HC7.out (by decide) H3.out).mono ?_
      rintro e w7 ⟨v7, rfl, hv7, hb7⟩
      have HV7 := Aside0.mk hv7
      have HB7 := Aside0.mk hb7
      clear hv7 hb7
      go_wp2
      go_ret2
      refine ⟨_, rfl, Kd.R_lower HV7.out ?_, ?_⟩
      · have := HB1.out.size; have := HHB6.out.size; omega
      · exact below_then (below_then HB1.out HB1.out.size HHB6.out) (by have := HB1.out.size; have := HHB6.out.size; omega) HB7.out
end Go.Proofs.Ytnpkndbhchmedaa.Ext
