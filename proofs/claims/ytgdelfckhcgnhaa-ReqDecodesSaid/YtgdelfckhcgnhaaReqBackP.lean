/- What is read is written: plain laws of requests and replies. No program in sight. -/
import Derived.Test.YtgdelfckhcgnhaaReqPlain
import Derived.Test.YtgdelfckhcgnhaaReqG
namespace Go.Proofs.Ytgdelfckhcgnhaa.Back
open Go Go.RowKit Go.Proofs.Ytgdelfckhcgnhaa.Pa Go.Proofs.YtgdelfckhcgnhaaW.PrintWords Go.Proofs.Ytgdelfckhcgnhaa.Code
set_option linter.unusedVariables false

def lineB (y : S93) : Bool := decide (0 ≤ y.f0) && (decide (0 ≤ y.f1) && decide (0 ≤ y.f2))
def linesB (L : List S93) : Bool := decide (L.length ≤ 4) && L.all lineB
def lay1 (y : S93) : List Int := digs y.f0.toNat ++ (digs y.f1.toNat ++ digs y.f2.toNat)
def laidB (L : List S93) : List Int := digs L.length ++ L.flatMap lay1
theorem putLine_flag (s : Bool × List Int) (y : S93) : (putLine s y).1 = (!(lineB y) || s.1) ∧ (lineB y = true → (putLine s y).2 = s.2 ++ lay1 y) := by
  unfold putLine putN lineB lay1
  by_cases h0 : y.f0 < 0
  · have : ¬ 0 ≤ y.f0 := by omega
    simp [h0, this]
  by_cases h1 : y.f1 < 0
  · have : ¬ 0 ≤ y.f1 := by omega
    simp [h1, this]
  by_cases h2 : y.f2 < 0
  · have : ¬ 0 ≤ y.f2 := by omega
    simp [h2, this]
  have a0 : 0 ≤ y.f0 := by omega
  have a1 : 0 ≤ y.f1 := by omega
  have a2 : 0 ≤ y.f2 := by omega
  simp [h0, h1, h2, a0, a1, a2]
theorem foldLine_flag : ∀ (L : List S93) (s : Bool × List Int), (L.foldl putLine s).1 = (!(L.all lineB) || s.1) ∧ (L.all lineB = true → (L.foldl putLine s).2 = s.2 ++ L.flatMap lay1)
  | [], s => ⟨by simp, fun _ => by simp⟩
  | y :: r, s => by
    have h1 := putLine_flag s y
    have h2 := foldLine_flag r (putLine s y)
    rw [List.foldl_cons, List.all_cons]
    refine ⟨?_, fun h => ?_⟩
    · rw [h2.1, h1.1]; cases lineB y <;> cases r.all lineB <;> simp
    · rw [Bool.and_eq_true] at h
      rw [h2.2 h.2, h1.2 h.1, List.flatMap_cons, List.append_assoc]
theorem putLines_flag (s : Bool × List Int) (L : List S93) : (putLines s L).1 = (!(linesB L) || s.1) ∧ (linesB L = true → (putLines s L).2 = s.2 ++ laidB L) := by
  have h := foldLine_flag L (putN (s.1 || decide (4 < L.length), s.2) (L.length : Int))
  have hp : putN (s.1 || decide (4 < L.length), s.2) (L.length : Int) = (s.1 || decide (4 < L.length), s.2 ++ digs L.length) := by
    unfold putN
    rw [if_neg (by omega), decide_eq_false (by omega), Bool.false_or, Int.toNat_natCast]
  rw [hp] at h
  unfold putLines linesB laidB
  rw [hp]
  refine ⟨?_, fun hl => ?_⟩
  · rw [h.1]
    by_cases h4 : L.length ≤ 4
    · rw [decide_eq_true h4, decide_eq_false (by omega)]; simp
    · rw [decide_eq_false h4, decide_eq_true (by omega)]; simp
  · rw [Bool.and_eq_true] at hl
    rw [h.2 hl.2, List.append_assoc]
def flagO : List FOp → List Int → List S93 → Bool
  | [], _, _ => false
  | .n i :: o, ns, L => decide (ns.getD i 0 < 0) || flagO o (ns.set i 0) L
  | .w i :: o, ns, L => flagO o (ns.set i 0) L
  | .l :: o, ns, L => !(linesB L) || flagO o ns []
def bytesO : List FOp → List Int → List S93 → List Int
  | [], _, _ => []
  | .n i :: o, ns, L => digs (ns.getD i 0).toNat ++ bytesO o (ns.set i 0) L
  | .w i :: o, ns, L => digs (zig (ns.getD i 0)) ++ bytesO o (ns.set i 0) L
  | .l :: o, ns, L => laidB L ++ bytesO o ns []
def leftO : List FOp → List Int → List S93 → List Int × List S93
  | [], ns, L => (ns, L)
  | .n i :: o, ns, L => leftO o (ns.set i 0) L
  | .w i :: o, ns, L => leftO o (ns.set i 0) L
  | .l :: o, ns, L => leftO o ns []
theorem opsW_flag : ∀ (o : List FOp) (s : Bool × List Int) (ns : List Int) (L : List S93), (Do.w.ops o ((s, ns), L)).1.1.1 = (flagO o ns L || s.1) ∧ (flagO o ns L = false → (Do.w.ops o ((s, ns), L)).1.1.2 = s.2 ++ bytesO o ns L) ∧ (Do.w.ops o ((s, ns), L)).1.2 = (leftO o ns L).1 ∧ (Do.w.ops o ((s, ns), L)).2 = (leftO o ns L).2
  | [], s, ns, L => ⟨by simp [Do.ops, flagO], fun _ => by simp [Do.ops, bytesO], rfl, rfl⟩
  | .n i :: o, s, ns, L => by
    have ih := opsW_flag o (putN s (ns.getD i 0)) (ns.set i 0) L
    have hp : (putN s (ns.getD i 0)).1 = (decide (ns.getD i 0 < 0) || s.1) := rfl
    have ef : flagO (.n i :: o) ns L = (decide (ns.getD i 0 < 0) || flagO o (ns.set i 0) L) := rfl
    have eb : bytesO (.n i :: o) ns L = digs (ns.getD i 0).toNat ++ bytesO o (ns.set i 0) L := rfl
    rw [ef, eb]
    refine ⟨ih.1.trans ?_, fun h => ?_, ih.2.2⟩
    · rw [hp]; cases flagO o (ns.set i 0) L <;> simp
    · simp only [Bool.or_eq_false_iff, decide_eq_false_iff_not] at h
      refine (ih.2.1 h.2).trans ?_
      have e2 : (putN s (ns.getD i 0)).2 = s.2 ++ digs (ns.getD i 0).toNat := if_neg h.1
      rw [e2, List.append_assoc]
  | .w i :: o, s, ns, L => by
    have ih := opsW_flag o (putI s (ns.getD i 0)) (ns.set i 0) L
    have ef : flagO (.w i :: o) ns L = flagO o (ns.set i 0) L := rfl
    have eb : bytesO (.w i :: o) ns L = digs (zig (ns.getD i 0)) ++ bytesO o (ns.set i 0) L := rfl
    rw [ef, eb]
    refine ⟨ih.1, fun h => ?_, ih.2.2⟩
    refine (ih.2.1 h).trans ?_
    have e2 : (putI s (ns.getD i 0)).2 = s.2 ++ digs (zig (ns.getD i 0)) := rfl
    rw [e2, List.append_assoc]
  | .l :: o, s, ns, L => by
    have ih := opsW_flag o (putLines s L) ns []
    have hp := putLines_flag s L
    have ef : flagO (.l :: o) ns L = (!(linesB L) || flagO o ns []) := rfl
    have eb : bytesO (.l :: o) ns L = laidB L ++ bytesO o ns [] := rfl
    rw [ef, eb]
    refine ⟨ih.1.trans ?_, fun h => ?_, ih.2.2⟩
    · rw [hp.1]; cases flagO o ns [] <;> cases linesB L <;> simp
    · simp only [Bool.or_eq_false_iff, Bool.not_eq_false'] at h
      refine (ih.2.1 h.2).trans ?_
      rw [hp.2 h.1, List.append_assoc]
def lay4 (y : S76) : List Int := digs y.f0.toNat ++ (digs y.f1.toNat ++ (digs y.f2.toNat ++ digs (zig y.f3)))
def entB (y : S76) : Bool := decide (0 ≤ y.f0) && (decide (0 ≤ y.f1) && decide (0 ≤ y.f2))
theorem putEntry_flag (s : Bool × List Int) (y : S76) : (putEntry s y).1 = (!(entB y) || s.1) ∧ (entB y = true → (putEntry s y).2 = s.2 ++ lay4 y) := by
  unfold putEntry putI putN entB lay4
  by_cases h0 : y.f0 < 0
  · have : ¬ 0 ≤ y.f0 := by omega
    simp [h0, this]
  by_cases h1 : y.f1 < 0
  · have : ¬ 0 ≤ y.f1 := by omega
    simp [h1, this]
  by_cases h2 : y.f2 < 0
  · have : ¬ 0 ≤ y.f2 := by omega
    simp [h2, this]
  have a0 : 0 ≤ y.f0 := by omega
  have a1 : 0 ≤ y.f1 := by omega
  have a2 : 0 ≤ y.f2 := by omega
  simp [h0, h1, h2, a0, a1, a2]
theorem foldEntry_flag : ∀ (L : List S76) (s : Bool × List Int), (L.foldl putEntry s).1 = (!(L.all entB) || s.1) ∧ (L.all entB = true → (L.foldl putEntry s).2 = s.2 ++ L.flatMap lay4)
  | [], s => ⟨by simp, fun _ => by simp⟩
  | y :: r, s => by
    have h1 := putEntry_flag s y
    have h2 := foldEntry_flag r (putEntry s y)
    rw [List.foldl_cons, List.all_cons]
    refine ⟨?_, fun h => ?_⟩
    · rw [h2.1, h1.1]; cases entB y <;> cases r.all entB <;> simp
    · rw [Bool.and_eq_true] at h
      rw [h2.2 h.2, h1.2 h.1, List.flatMap_cons, List.append_assoc]
theorem putEntries_flag (s : Bool × List Int) (K : List S76) : (putEntries s K).1 = (!(decide (K.length ≤ 8) && K.all entB) || s.1) ∧ ((decide (K.length ≤ 8) && K.all entB) = true → (putEntries s K).2 = s.2 ++ (digs K.length ++ K.flatMap lay4)) := by
  have h := foldEntry_flag K (putN (s.1 || decide (8 < K.length), s.2) (K.length : Int))
  have hp : putN (s.1 || decide (8 < K.length), s.2) (K.length : Int) = (s.1 || decide (8 < K.length), s.2 ++ digs K.length) := by
    unfold putN
    rw [if_neg (by omega), decide_eq_false (by omega), Bool.false_or, Int.toNat_natCast]
  rw [hp] at h
  unfold putEntries
  rw [hp]
  refine ⟨?_, fun hl => ?_⟩
  · rw [h.1]
    by_cases h4 : K.length ≤ 8
    · rw [decide_eq_true h4, decide_eq_false (by omega)]; simp
    · rw [decide_eq_false h4, decide_eq_true (by omega)]; simp
  · rw [Bool.and_eq_true] at hl
    rw [h.2 hl.2, List.append_assoc]
def formL (k : Int) : List UInt8 := if k = 1 then [105, 115, 108, 113] else if k = 2 then [105, 115, 108, 81] else if k = 3 then [105, 115, 108, 116, 113] else if k = 4 then [105, 110, 76] else if k = 5 then [105, 114, 107, 113] else if k = 6 then [105, 114] else if k = 7 then [110] else if k = 8 then [115, 108] else if k = 9 then [114] else if k = 10 then [110] else [63]

/-! #### What is read is written -/
theorem getN_back {s : Bool × List Int} (hb : RB s) (h : (getN s).1 = false) : s.1 = false ∧ (getNum s.2).e = 0 ∧ s.2 = digs (getNum s.2).v.toNat ++ (getN s).2 ∧ 0 ≤ (getNum s.2).v := by
  unfold getN at h ⊢
  simp only [Bool.or_eq_false_iff, bne_eq_false_iff_eq] at h
  obtain ⟨h1, h2, u, _, _, e1, e2⟩ := (only_num hb).2 h.2
  refine ⟨h.1, h.2, ?_, h1⟩
  simp only
  rw [e1, e2, List.take_append_drop]
theorem getI_back {s : Bool × List Int} (hb : RB s) (h : (getI s).1 = false) : s.1 = false ∧ (getInt s.2).e = 0 ∧ s.2 = digs (zig (getInt s.2).v) ++ (getI s).2 := by
  unfold getI at h ⊢
  simp only [Bool.or_eq_false_iff, bne_eq_false_iff_eq] at h
  obtain ⟨h1, h2, u, _, _, e1, e2⟩ := (only_int hb).2 h.2
  refine ⟨h.1, h.2, ?_⟩
  simp only
  rw [e1, e2, List.take_append_drop]
theorem getLine1_back {s : Bool × List Int} (hb : RB s) (h : (getLine1 s).1.1 = false) : s.1 = false ∧ s.2 = lay1 (getLine1 s).2 ++ (getLine1 s).1.2 ∧ lineB (getLine1 s).2 = true := by
  obtain ⟨h2, _, e2, p2⟩ := getN_back hb.getN.getN h
  obtain ⟨h1, _, e1, p1⟩ := getN_back hb.getN h2
  obtain ⟨h0, _, e0, p0⟩ := getN_back hb h1
  refine ⟨h0, ?_, ?_⟩
  · unfold getLine1 lay1
    simp only [List.append_assoc]
    rw [← e2, ← e1, ← e0]
  · unfold lineB getLine1
    simp [p0, p1, p2]
theorem getLineN_back {s : Bool × List Int} (hb : RB s) : ∀ j, (getLineN s j).1.1 = false → s.1 = false ∧ s.2 = (getLineN s j).2.flatMap lay1 ++ (getLineN s j).1.2 ∧ (getLineN s j).2.all lineB = true
  | 0, h => ⟨h, by simp [getLineN], by simp [getLineN]⟩
  | j + 1, h => by
    have hb1 := (lineN_fits hb j).1
    obtain ⟨h1, e1, p1⟩ := getLine1_back hb1 h
    obtain ⟨h0, e0, p0⟩ := getLineN_back hb j h1
    refine ⟨h0, ?_, ?_⟩
    · rw [e0]
      conv => lhs; rw [e1]
      simp [getLineN]
    · simp [getLineN, p1] at p0 ⊢
      exact p0
theorem getM_back {s : Bool × List Int} {M : Int} (hb : RB s) (h : (getM M s).1 = false) : (getN s).1 = false ∧ ¬ M < (getNum s.2).v ∧ manyOf M s = (getNum s.2).v := by
  unfold getM at h
  simp only [Bool.or_eq_false_iff, decide_eq_false_iff_not] at h
  exact ⟨h.1, h.2, by unfold manyOf; rw [if_neg h.2]⟩
theorem getLines_back {s : Bool × List Int} (hb : RB s) (h : (getLines s).1.1 = false) : s.1 = false ∧ s.2 = laidB (getLines s).2 ++ (getLines s).1.2 ∧ linesB (getLines s).2 = true := by
  unfold getLines at h ⊢
  obtain ⟨h1, e1, p1⟩ := getLineN_back (hb.getM 4) _ h
  obtain ⟨h2, q, hm⟩ := getM_back hb h1
  obtain ⟨h0, _, e0, p0⟩ := getN_back hb h2
  have hlen := getLineN_len (getM 4 s) (manyOf 4 s).toNat
  refine ⟨h0, ?_, ?_⟩
  · unfold laidB
    rw [hlen, hm, List.append_assoc]
    rw [hm] at e1
    rw [← e1]
    exact e0
  · unfold linesB
    rw [hlen, p1, hm, decide_eq_true (by omega)]; rfl
theorem getEntry1_back {s : Bool × List Int} (hb : RB s) (h : (getEntry1 s).1.1 = false) : s.1 = false ∧ s.2 = lay4 (getEntry1 s).2 ++ (getEntry1 s).1.2 ∧ entB (getEntry1 s).2 = true := by
  obtain ⟨h3, _, e3⟩ := getI_back hb.getN.getN.getN h
  obtain ⟨h2, _, e2, p2⟩ := getN_back hb.getN.getN h3
  obtain ⟨h1, _, e1, p1⟩ := getN_back hb.getN h2
  obtain ⟨h0, _, e0, p0⟩ := getN_back hb h1
  refine ⟨h0, ?_, ?_⟩
  · unfold getEntry1 lay4
    simp only [List.append_assoc]
    rw [← e3, ← e2, ← e1, ← e0]
  · unfold entB getEntry1
    simp [p0, p1, p2]
theorem getEntryN_back {s : Bool × List Int} (hb : RB s) : ∀ j, (getEntryN s j).1.1 = false → s.1 = false ∧ s.2 = (getEntryN s j).2.flatMap lay4 ++ (getEntryN s j).1.2 ∧ (getEntryN s j).2.all entB = true
  | 0, h => ⟨h, by simp [getEntryN], by simp [getEntryN]⟩
  | j + 1, h => by
    have hb1 := (entryN_fits hb j).1
    obtain ⟨h1, e1, p1⟩ := getEntry1_back hb1 h
    obtain ⟨h0, e0, p0⟩ := getEntryN_back hb j h1
    refine ⟨h0, ?_, ?_⟩
    · rw [e0]
      conv => lhs; rw [e1]
      simp [getEntryN]
    · simp [getEntryN, p1] at p0 ⊢
      exact p0
theorem getEntrys_back {s : Bool × List Int} (hb : RB s) (h : (getEntrys s).1.1 = false) : s.1 = false ∧ s.2 = digs (getEntrys s).2.length ++ (getEntrys s).2.flatMap lay4 ++ (getEntrys s).1.2 ∧ (decide ((getEntrys s).2.length ≤ 8) && (getEntrys s).2.all entB) = true := by
  unfold getEntrys at h ⊢
  obtain ⟨h1, e1, p1⟩ := getEntryN_back (hb.getM 8) _ h
  obtain ⟨h2, q, hm⟩ := getM_back hb h1
  obtain ⟨h0, _, e0, p0⟩ := getN_back hb h2
  have hlen := getEntryN_len (getM 8 s) (manyOf 8 s).toNat
  refine ⟨h0, ?_, ?_⟩
  · rw [hlen, hm, List.append_assoc]
    rw [hm] at e1
    rw [← e1]
    exact e0
  · rw [hlen, p1, hm, decide_eq_true (by omega)]; rfl
def bytesR : List FOp → Bool × List Int → List Int
  | [], _ => []
  | .n i :: o, s => digs (getNum s.2).v.toNat ++ bytesR o (getN s)
  | .w i :: o, s => digs (zig (getInt s.2).v) ++ bytesR o (getI s)
  | .l :: o, s => laidB (getLines s).2 ++ bytesR o (getLines s).1
def okR : List FOp → Bool × List Int → Prop
  | [], _ => True
  | .n i :: o, s => 0 ≤ (getNum s.2).v ∧ okR o (getN s)
  | .w i :: o, s => okR o (getI s)
  | .l :: o, s => linesB (getLines s).2 = true ∧ okR o (getLines s).1
theorem ops_back : ∀ (o : List FOp) (s : Bool × List Int) (ms : List Int) (M : List S93), RB s → (Do.r.ops o ((s, ms), M)).1.1.1 = false → s.1 = false ∧ s.2 = bytesR o s ++ (Do.r.ops o ((s, ms), M)).1.1.2 ∧ okR o s
  | [], s, ms, M, hb, h => ⟨h, by simp [bytesR, Do.ops], trivial⟩
  | .n i :: o, s, ms, M, hb, h => by
    obtain ⟨h1, e1, p1⟩ := ops_back o (getN s) (ms.set i (getNum s.2).v) M hb.getN h
    obtain ⟨h0, _, e0, p0⟩ := getN_back hb h1
    refine ⟨h0, ?_, p0, p1⟩
    show s.2 = (digs (getNum s.2).v.toNat ++ bytesR o (getN s)) ++ (Do.r.ops o ((getN s, ms.set i (getNum s.2).v), M)).1.1.2
    rw [List.append_assoc, ← e1]
    exact e0
  | .w i :: o, s, ms, M, hb, h => by
    obtain ⟨h1, e1, p1⟩ := ops_back o (getI s) (ms.set i (getInt s.2).v) M hb.getI h
    obtain ⟨h0, _, e0⟩ := getI_back hb h1
    refine ⟨h0, ?_, p1⟩
    show s.2 = (digs (zig (getInt s.2).v) ++ bytesR o (getI s)) ++ (Do.r.ops o ((getI s, ms.set i (getInt s.2).v), M)).1.1.2
    rw [List.append_assoc, ← e1]
    exact e0
  | .l :: o, s, ms, M, hb, h => by
    obtain ⟨h1, e1, p1⟩ := ops_back o (getLines s).1 ms (getLines s).2 (lines_fits hb).1 h
    obtain ⟨h0, e0, p0⟩ := getLines_back hb h1
    refine ⟨h0, ?_, p0, p1⟩
    show s.2 = (laidB (getLines s).2 ++ bytesR o (getLines s).1) ++ (Do.r.ops o (((getLines s).1, ms), (getLines s).2)).1.1.2
    rw [List.append_assoc, ← e1]
    exact e0
/-- What was read whole is encoded so. -/
theorem dec_back {l : List Int} (hb : Bytes l) (hk : okKind (getNum l).v = true) (hf : (decS l).1.1.1 = false) (hr : (decS l).1.1.2 = []) : encP (decS l).1.2 (decS l).2 = (l, 0) := by
  obtain ⟨k, hkk⟩ : ∃ k, k = (getNum l).v := ⟨_, rfl⟩
  obtain ⟨s, hs⟩ : ∃ s, s = getN (false, l) := ⟨_, rfl⟩
  have hS : decS l = Do.r.ops (opsOf k) ((s, [k, 0, 0, 0, 0, 0, 0, 0, 0]), []) := by
    unfold decS
    rw [fields_ops, ← hkk, ← hs]
  rw [← hkk] at hk
  rw [hS] at hf hr ⊢
  have hsb : RB s := hs ▸ RB.getN (s := (false, l)) hb
  obtain ⟨h1, e1, p1⟩ := ops_back _ _ _ _ hsb hf
  rw [hr, List.append_nil] at e1
  obtain ⟨-, -, e0, p0⟩ := getN_back (s := (false, l)) hb (hs ▸ h1)
  rw [← hs, ← hkk] at e0
  simp only at e0
  have hk2 : 1 ≤ k ∧ k ≤ 10 := of_decide_eq_true hk
  have key : ∃ m1 m2 m3 m4 m5 m6 m7 m8 M, (Do.r.ops (opsOf k) ((s, [k, 0, 0, 0, 0, 0, 0, 0, 0]), [])).1.2 = [k, m1, m2, m3, m4, m5, m6, m7, m8] ∧ (Do.r.ops (opsOf k) ((s, [k, 0, 0, 0, 0, 0, 0, 0, 0]), [])).2 = M ∧ flagO (opsOf k) [k, m1, m2, m3, m4, m5, m6, m7, m8] M = false ∧ bytesO (opsOf k) [k, m1, m2, m3, m4, m5, m6, m7, m8] M = bytesR (opsOf k) s ∧ (zeros (leftO (opsOf k) [k, m1, m2, m3, m4, m5, m6, m7, m8] M).1 && (leftO (opsOf k) [k, m1, m2, m3, m4, m5, m6, m7, m8] M).2.length == 0) = true := by
    clear hS hf hr e0 e1 hkk hs hb hk h1 hsb p0
    rcases (by omega : k = 1 ∨ k = 2 ∨ k = 3 ∨ k = 4 ∨ k = 5 ∨ k = 6 ∨ k = 7 ∨ k = 8 ∨ k = 9 ∨ k = 10) with h | h | h | h | h | h | h | h | h | h
    all_goals
      subst h
      refine ⟨_, _, _, _, _, _, _, _, _, rfl, rfl, ?_, ?_, ?_⟩
      · simp [opsOf, okR, flagO, Do.ops, Do.op, Do.step, Do.stepW, Do.r] at p1 ⊢
        try grind
      · simp [opsOf, bytesO, bytesR, Do.ops, Do.op, Do.step, Do.stepW, Do.r]
      · simp [opsOf, leftO, zeros, Do.ops, Do.op, Do.step, Do.stepW, Do.r]
  obtain ⟨m1, m2, m3, m4, m5, m6, m7, m8, M, k1, k2, k3, k4, k5⟩ := key
  rw [k1, k2]
  have hs0 : putN (false, []) k = (false, digs k.toNat) := by
    unfold putN
    rw [if_neg (by omega), decide_eq_false (by omega)]; rfl
  have hE : encS [k, m1, m2, m3, m4, m5, m6, m7, m8] M = Do.w.ops (opsOf k) (((false, digs k.toNat), [k, m1, m2, m3, m4, m5, m6, m7, m8]), M) := by
    unfold encS
    rw [fields_ops, List.getD_cons_zero, hs0]
  obtain ⟨o1, o2, o3, o4⟩ := opsW_flag (opsOf k) (false, digs k.toNat) [k, m1, m2, m3, m4, m5, m6, m7, m8] M
  rw [← hE] at o1 o2 o3 o4
  unfold encP
  rw [List.getD_cons_zero, hk, o1, o3, o4, k3, o2 k3, k4]
  rw [Bool.or_false, k5]
  simp only [Bool.not_false, Bool.and_self, if_true]
  rw [← e1, ← e0]
theorem told_back {l : List Int} (hb : Bytes l) (hc : (toldS l).2.c ≤ 9) (hf : (toldS l).1.1 = false) (hr : (toldS l).1.2 = []) : ansP (toldS l).2 = (l, 0) := by
  have hb0 : RB (false, l) := hb
  have b1 := hb0.getN
  have b2 := b1.getI
  have b3 := b2.getI
  have b4 := (lines_fits b3).1
  have hS : toldS l = ((getEntrys (getLines (getI (getI (getN (false, l))))).1).1, ⟨(getNum l).v, (getInt (getN (false, l)).2).v, (getInt (getI (getN (false, l))).2).v, (getLines (getI (getI (getN (false, l))))).2, (getEntrys (getLines (getI (getI (getN (false, l))))).1).2⟩) := rfl
  rw [hS] at hc hf hr ⊢
  simp only at hc hf hr
  obtain ⟨f4, e4, p4⟩ := getEntrys_back b4 hf
  obtain ⟨f3, e3, p3⟩ := getLines_back b3 f4
  obtain ⟨f2, _, e2⟩ := getI_back b2 f3
  obtain ⟨f1, _, e1⟩ := getI_back b1 f2
  obtain ⟨_, _, e0, p0⟩ := getN_back hb0 f1
  simp only at e0 p0
  rw [hr, List.append_nil] at e4
  rw [e4] at e3
  rw [e3] at e2
  rw [e2] at e1
  rw [e1] at e0
  generalize (getEntrys (getLines (getI (getI (getN (false, l))))).1).2 = K at *
  generalize (getLines (getI (getI (getN (false, l))))).2 = L at *
  generalize (getInt (getN (false, l)).2).v = a at *
  generalize (getInt (getI (getN (false, l))).2).v = b at *
  generalize (getNum l).v = c at *
  have h1 := putEntries_flag (putLines (putI (putI (putN (decide (10 ≤ c), []) c) a) b) L) K
  have h2 := putLines_flag (putI (putI (putN (decide (10 ≤ c), []) c) a) b) L
  have hc0 : putN (decide (10 ≤ c), []) c = (false, digs c.toNat) := by
    unfold putN
    rw [if_neg (by omega), decide_eq_false (by omega), decide_eq_false (by omega)]; rfl
  have hfl : (ansS ⟨c, a, b, L, K⟩).1.1 = false := by
    show (putEntries (putLines (putI (putI (putN (decide (10 ≤ c), []) c) a) b) L) K).1 = false
    rw [h1.1, h2.1, p4, p3, hc0]; rfl
  unfold ansP
  rw [hfl, if_neg (by decide)]
  congr 1
  show (putEntries (putLines (putI (putI (putN (decide (10 ≤ c), []) c) a) b) L) K).2 = l
  rw [h1.2 p4, h2.2 p3, hc0]
  refine Eq.trans ?_ e0.symm
  show (digs c.toNat ++ digs (zig a) ++ digs (zig b)) ++ laidB L ++ _ = _
  simp only [List.append_assoc]
end Go.Proofs.Ytgdelfckhcgnhaa.Back
