/- How what is put lies in memory: a block with a slice's header, and a row of bytes of its own; what a call may turn. No conditions beside those that each lemma states. -/
import Derived.Test.YtgdelfckhcgnhaaPa0
import Derived.Test.YtgdelfckhcgnhaaInRound
import Derived.RegionTactic
import Derived.BigRegion
import Derived.ChangeAlike
import Derived.Deep.RegionLaw
import Derived.RangeFuncBox
import Derived.Shelf.Abstract
import Derived.Lib.SliceRun
import Derived.Test.YtgdelfckhcgnhaaPa1
namespace Go.Proofs.Ytgdelfckhcgnhaa.Code
open Go.RowKit Go.Proofs.Ytgdelfckhcgnhaa.Pa Go.Proofs.YtgdelfckhcgnhaaW.PrintWords Go.Proofs.YtgdelfckhcgnhaaW.PrintLast Go.Proofs.YtgdelfckhcgnhaaW.PrintMore
set_option linter.unusedVariables false
variable {ob : Bool}

/-- What a call may have turned: the blocks of S, and what is new. -/
structure Went (S : Nat → Prop) (w W : World) : Prop where
  os : W.os = w.os
  tape : W.tape = w.tape
  output : W.output = w.output
  kept : Kept w W S
theorem Went.refl (S : Nat → Prop) (w : World) : Went S w w := ⟨rfl, rfl, rfl, Kept.refl _ _⟩
theorem Went.mono {S T : Nat → Prop} {w W : World} (h : Went S w W) (hs : ∀ k, S k → T k) : Went T w W := ⟨h.os, h.tape, h.output, h.kept.mono hs⟩
theorem Went.trans {S T U : Nat → Prop} {w w1 w2 : World} (h : Went S w w1) (k : Went T w1 w2) (hs : ∀ k, S k → U k) (ht : ∀ k, T k → U k ∨ w.heap.size ≤ k) : Went U w w2 :=
  ⟨k.os.trans h.os, k.tape.trans h.tape, k.output.trans h.output, (h.kept.mono hs).then_ k.kept ht⟩
theorem Went.of_below {w W : World} (h : Below w.heap.size w W) (S : Nat → Prop) : Went S w W := ⟨h.os, h.tape, h.output, Kept.of_below h S⟩
theorem Went.size {S : Nat → Prop} {w W : World} (h : Went S w W) : w.heap.size ≤ W.heap.size := h.kept.1
theorem Went.below {S : Nat → Prop} {B : Nat} {w0 w W : World} (h : Went S w W) (hb : Below B w0 w) (hB : B ≤ w.heap.size) (hs : ∀ k, S k → B ≤ k) : Below B w0 W :=
  ⟨h.os.trans hb.os, h.tape.trans hb.tape, h.output.trans hb.output, Nat.le_trans hb.size h.size, fun k hk => (h.kept.2 k (Nat.lt_of_lt_of_le hk hB) (fun hS => by have := hs k hS; omega)).trans (hb.block k hk)⟩
theorem Went.block {S : Nat → Prop} {w W : World} (h : Went S w W) {k : Nat} {o : Obj} (hk : w.heap[k]? = some o) (hn : ¬ S k) : W.heap[k]? = some o := blk_kept hk h.kept hn
theorem Went.setCell {S : Nat → Prop} {w W : World} (h : Went S w W) {a : Addr} (ha : S a.block ∨ w.heap.size ≤ a.block) (u : Value) : Went S w (W.setCell a u) :=
  ⟨h.os, h.tape, h.output, h.kept.setCell ha u⟩
theorem Went.alloc {S : Nat → Prop} {w W : World} (h : Went S w W) (o : Obj) : Went S w (W.alloc o) := ⟨h.os, h.tape, h.output, h.kept.alloc o⟩
theorem Went.drewN {S : Nat → Prop} {w W : World} (h : Went S w W) (n : Nat) : Went S w (W.drewN n) := ⟨h.os, h.tape, h.output, h.kept.drewN n⟩
theorem Went.drew {S : Nat → Prop} {w W : World} (h : Went S w W) : Went S w W.drew := ⟨h.os, h.tape, h.output, h.kept.drew⟩
theorem Went.grown {S : Nat → Prop} {w W W' : World} {row : Option Nat} (h : Went S w W) (hg : W.grownBy W' row) (hr : ∀ k, row = some k → S k ∨ w.heap.size ≤ k) : Went S w W' :=
  ⟨hg.os.trans h.os, hg.tape.trans h.tape, hg.output.trans h.output, h.kept.of_grown hg hr |> fun k => k⟩
theorem Went.putObj {S : Nat → Prop} {w W : World} (h : Went S w W) {l : Nat} (hl : w.heap.size ≤ l) (o : Obj) : Went S w (W.putObj l o) :=
  h.grown (grownBy_putObj' W l o) (fun k e => by cases e; exact .inr hl)
theorem Went.setq {S : Nat → Prop} {w W : World} {q o : Nat} (h : Went S w W) (hs : S q ∨ w.heap.size ≤ q) (u : Value) : Went S w (W.setCell ⟨q, o, none⟩ u) := h.setCell (a := ⟨q, o, none⟩) hs u
theorem heap_setCell {w : World} {g o : Nat} {cur : Array Value} {e : TypeId} (h : w.heap[g]? = some (.cells cur e (0, 0))) (u : Value) :
    (w.setCell ⟨g, o, none⟩ u).heap[g]? = some (.cells (cur.setIfInBounds o u) e (0, 0)) := by
  simp [World.setCell, Array.getElem?_modify, h]

/-- The block of what is put, or got. -/
def Head (ob : Bool) (w : World) (q : Nat) (A : Option Addr) (n cap : Nat) : Prop := w.heap[q]? = some (.cells #[.slice A n cap, .bool ob] 66 (0, 0))
theorem Head.cell {w : World} {q n cap : Nat} {A : Option Addr} (h : Head ob w q A n cap) : w.cell? ⟨q, 0, none⟩ = some (.slice A n cap) ∧ w.frozen? ⟨q, 0, none⟩ = false := by
  unfold Head at h
  exact ⟨by rw [cell_of_row _ _ _ _ _ _ h]; rfl, by simp [World.frozen?, h]⟩
theorem Head.lt {w : World} {q n cap : Nat} {A : Option Addr} (h : Head ob w q A n cap) : q < w.heap.size := (Array.getElem?_eq_some_iff.1 h).1
theorem Head.kept {w W : World} {q n cap : Nat} {A : Option Addr} {S : Nat → Prop} (k : Head ob w q A n cap) (hw : Went S w W) (hn : ¬ S q) : Head ob W q A n cap := hw.block k hn
theorem Head.set {w : World} {q n cap : Nat} {A : Option Addr} (h : Head ob w q A n cap) (A' : Option Addr) (n' cap' : Nat) : Head ob (w.setCell ⟨q, 0, none⟩ (.slice A' n' cap')) q A' n' cap' := by
  unfold Head at *
  rw [heap_setCell h]
  rfl
/-- What was put, at block q; its blocks are among F. -/
def Out (ob : Bool) (w : World) (q : Nat) (F : Nat → Prop) (bs : List Int) : Prop :=
  ∃ A cap, Head ob w q A bs.length cap ∧ Kd.R (Kd.int .u8) 5 w 0 (fun k => F k ∧ k ≠ q) (.slice A bs.length cap) bs ∧ F q ∧ ∀ k, F k → k < w.heap.size
def OutTurned (ob : Bool) (w : World) (q : Nat) (F : Nat → Prop) (bs : List Int) (w' : World) : Prop := ∃ F', Out ob w' q F' bs ∧ (∀ k, F' k → F k ∨ w.heap.size ≤ k) ∧ Went F w w'
theorem Out.kept {w W : World} {q : Nat} {F S : Nat → Prop} {bs : List Int} (k : Out ob w q F bs) (hw : Went S w W) (hn : ∀ k, F k → ¬ S k) : Out ob W q F bs := by
  obtain ⟨A, cap, h1, h2, h3, h4⟩ := k
  exact ⟨A, cap, h1.kept hw (hn q h3), Kd.R_kept h2 hw.kept (fun k hk => hn k hk.1), h3, fun k hk => Nat.lt_of_lt_of_le (h4 k hk) hw.size⟩
theorem Out.lt {w : World} {q : Nat} {F : Nat → Prop} {bs : List Int} (k : Out ob w q F bs) : q < w.heap.size := by obtain ⟨_, _, h, _⟩ := k; exact h.lt
theorem Out.below {w W : World} {q : Nat} {F : Nat → Prop} {bs : List Int} (k : Out ob w q F bs) (hb : Below w.heap.size w W) : Out ob W q F bs := k.kept (Went.of_below hb (fun _ => False)) (fun _ _ h => h)
theorem OutTurned.refl {w : World} {q : Nat} {F : Nat → Prop} {bs : List Int} (k : Out ob w q F bs) : OutTurned ob w q F bs w := ⟨F, k, fun _ h => .inl h, Went.refl _ _⟩
theorem OutTurned.after {w w1 w2 : World} {q : Nat} {F F1 : Nat → Prop} {bs : List Int} (hF : ∀ k, F1 k → F k ∨ w.heap.size ≤ k) (hW : Went F w w1) (k : OutTurned ob w1 q F1 bs w2) : OutTurned ob w q F bs w2 := by
  obtain ⟨F2, k1, k2, k3⟩ := k
  refine ⟨F2, k1, fun k hk => ?_, hW.trans k3 (fun _ h => h) hF⟩
  rcases k2 k hk with h | h
  · exact hF k h
  · exact .inr (Nat.le_trans hW.size h)
theorem OutTurned.behind {w w1 w2 : World} {q : Nat} {F : Nat → Prop} {bs : List Int} (hb : Below w.heap.size w w1) (k : OutTurned ob w1 q F bs w2) : OutTurned ob w q F bs w2 :=
  k.after (fun _ h => .inl h) (Went.of_below hb F)
/-- What an append to the row, stored back, leaves. -/
theorem Out.stored {w w1 : World} {q n cap : Nat} {F : Nat → Prop} {bs cs : List Int} {A A1 : Option Addr} {c1 : Nat} (h1 : Head ob w q A bs.length cap) (h2 : Kd.R (Kd.int .u8) 5 w 0 (fun k => F k ∧ k ≠ q) (.slice A bs.length cap) bs) (h3 : F q) (h4 : ∀ k, F k → k < w.heap.size)
    (ho : Kd.R (Kd.int .u8) 5 w1 0 (fun k => (F k ∧ k ≠ q) ∨ w.heap.size ≤ k) (.slice A1 cs.length c1) cs) (hg : w.grownBy w1 (Value.slice A bs.length cap).ownBlock) : OutTurned ob w q F cs (w1.setCell ⟨q, 0, none⟩ (.slice A1 cs.length c1)) := by
  have hne : some q ≠ (Value.slice A bs.length cap).ownBlock := fun e => (h2.1 q e.symm).2 rfl
  have hh : Head ob w1 q A bs.length cap := (hg.block q h1.lt hne).trans h1
  have hw1 : Went F w w1 := ⟨hg.os, hg.tape, hg.output, hg.size, fun i hi hn => hg.block i hi (fun e => hn (h2.1 i e.symm).1)⟩
  have hs : Went (fun k => k = q) w1 (w1.setCell ⟨q, 0, none⟩ (.slice A1 cs.length c1)) := Went.setq (S := fun k => k = q) (Went.refl _ w1) (.inl rfl) _
  have ho2 := Kd.R_bound ho
  refine ⟨fun k => k = q ∨ (((F k ∧ k ≠ q) ∨ w.heap.size ≤ k) ∧ k < w1.heap.size), ⟨A1, c1, hh.set _ _ _, ?_, .inl rfl, fun k hk => ?_⟩, fun k hk => ?_, hw1.trans hs (fun _ h => h) (fun k hk => by subst hk; exact .inl h3)⟩
  · refine Kd.R_mono (Kd.R_kept ho2 hs.kept (fun k hk e => ?_)) (fun k hk => ⟨.inr ⟨hk.1, hk.2.2.1⟩, ?_⟩)
    · subst e
      rcases hk.1 with h | h
      · exact h.2 rfl
      · have := h1.lt; omega
    · rcases hk.1 with h | h
      · exact h.2
      · have := h1.lt; omega
  · have e1 : (w1.setCell ⟨q, 0, none⟩ (.slice A1 cs.length c1)).heap.size = w1.heap.size := by simp [World.setCell]
    rw [e1]
    rcases hk with rfl | hk
    · exact hh.lt
    · exact hk.2
  · rcases hk with rfl | ⟨h | h, _⟩
    · exact .inl h3
    · exact .inl h.1
    · exact .inr h
end Go.Proofs.Ytgdelfckhcgnhaa.Code

namespace Go.Proofs.Ytgdelfckhcgnhaa.Code
open Go.RowKit Go.Proofs.Ytgdelfckhcgnhaa.Pa Go.Proofs.YtgdelfckhcgnhaaW.PrintWords Go.Proofs.YtgdelfckhcgnhaaW.PrintLast Go.Proofs.YtgdelfckhcgnhaaW.PrintMore Go.Proofs.Ytgdelfckhcgnhaa.Range
attribute [local go_sem] Oper.semAt_some
set_option linter.unusedVariables false

/-- A number's digits. -/
def digs (n : Nat) : List Int := if n < 128 then [(n : Int)] else (((n % 128 + 128 : Nat) : Int)) :: digs (n / 128)
termination_by n
decreasing_by omega
theorem digs_small {n : Nat} (h : n < 128) : digs n = [(n : Int)] := by rw [digs, if_pos h]
theorem digs_big {n : Nat} (h : ¬ n < 128) : digs n = ((n % 128 + 128 : Nat) : Int) :: digs (n / 128) := by rw [digs, if_neg h]

theorem digs_ne (n : Nat) : 0 < (digs n).length := by rw [digs]; split <;> simp
theorem digs_more {n m : Nat} {pre : List Int} (h : digs n = pre ++ digs m) : pre.length < (digs n).length := by
  have := digs_ne m
  rw [h, List.length_append]
  omega
theorem digs_length : ∀ (j n : Nat), n < 128 ^ (j + 1) → (digs n).length ≤ j + 1
  | 0, n, h => by rw [digs_small (by simpa using h)]; simp
  | j + 1, n, h => by
    by_cases h1 : n < 128
    · rw [digs_small h1]; simp
    · rw [digs_big h1, List.length_cons]
      have := digs_length j (n / 128) (by rw [Nat.pow_succ] at h; omega)
      omega
theorem digs_ten {n : Nat} (h : n < 18446744073709551616) : (digs n).length ≤ 10 := digs_length 9 n (Nat.lt_trans h (by decide))

/-- The maker of the iterator. -/
theorem digits_any (n : Int) (w : World) : Calls Try.prog 65 #[.int .u64 n] w fun e w' => e = .returned (.func (.func 66) #[] #[.pointer (some ⟨w.heap.size, 0, none⟩)]) ∧ w' = w.alloc (.cells #[.int .u64 n] 106) := by
  go_enter Try.func65, Try.ntmps65
  go_wp2
  go_ret
  exact ⟨rfl, rfl⟩

/-- A number's box. -/
def Box (w : World) (B : Nat) (n : Nat) : Prop := w.heap[B]? = some (.cells #[.int .u64 (n : Int)] 106 (0, 0))
theorem Box.cell {w : World} {B n : Nat} (h : Box w B n) : w.cell? ⟨B, 0, none⟩ = some (.int .u64 (n : Int)) ∧ w.frozen? ⟨B, 0, none⟩ = false := by
  unfold Box at h
  exact ⟨by rw [cell_of_row _ _ _ _ _ _ h]; rfl, by simp [World.frozen?, h]⟩
theorem Box.set {w : World} {B n : Nat} (h : Box w B n) (m : Nat) : Box (w.setCell ⟨B, 0, none⟩ (.int .u64 (m : Int))) B m := by
  unfold Box at *
  rw [heap_setCell h]
  rfl

def boxLeft (w : World) (B : Nat) : Nat := (intOf ((w.cell? ⟨B, 0, none⟩).getD undef)).toNat
theorem Box.left {w : World} {B n : Nat} (h : Box w B n) : boxLeft w B = n := by
  unfold boxLeft
  rw [h.cell.1]
  simp [intOf]

set_option maxRecDepth 100000 in
set_option maxHeartbeats 8000000 in
/-- What the iterator does, in the frame of whoever runs it: M m pre W: the number that is left is m, and pre has come. -/
theorem iter_in (F : Fence) (n : Nat) (hF : F.fn 66) (hro : F.round = none) (hn : 1 ≤ n) (l B N : Nat) (hN : N < 18446744073709551616) (M : Nat → List Int → World → Prop) (K : World → Prop)
    (hM : ∀ m pre W, M m pre W → Box W B m) (hS : ∀ m m' pre W, M m pre W → M m' pre (W.setCell ⟨B, 0, none⟩ (.int .u64 (m' : Int)))) (hK : ∀ A B, K A → KeepsOthers A B → K B)
    (hY : ∀ m pre (x : Int) W, M m pre W → K W → pre.length < (digs N).length → m = N / 128 ^ pre.length → 0 ≤ x → x < 256 → YieldAt F (n - 1) Try.prog l #[.int .u8 x] W fun e W' => e = .returned (.bool true) ∧ M m (pre ++ [x]) W' ∧ K W')
    (W : World) (h0 : M N [] W) (k0 : K W) :
    CallsIn F n Try.prog 66 #[.func (.yield l) #[] #[], .pointer (some ⟨B, 0, none⟩)] W fun e W' => (∃ v, e = .returned v) ∧ (∃ m, M m (digs N) W') ∧ K W' := by
  refine callsIn_of_wp Try.func66 rfl hF ?_ hro
  simp only [Try.ntmps66, List.size_toArray, List.length_cons, List.length_nil, Nat.reduceAdd, Nat.reduceSub, Array.replicate_succ, Array.replicate_zero, List.push_toArray, List.append_toArray, List.nil_append, List.cons_append]
  gi_wp2
  gi_loopw [3] (fun _ wr => ∃ (m : Nat) (pre : List Int), m < 18446744073709551616 ∧ m = N / 128 ^ pre.length ∧ digs N = pre ++ digs m ∧ M m pre wr ∧ K wr) (fun _ wr => boxLeft wr B)
  case atStart => exact ⟨N, [], hN, by simp, rfl, h0, k0⟩
  case round =>
    obtain ⟨m, pre, hm, he, hd, hMm, hKm⟩ := hrel
    have hb := hM _ _ _ hMm
    obtain ⟨b0, b1⟩ := hb.cell
    by_cases h : m < 128
    · have hy := hY m pre (m : Int) wr hMm hKm (digs_more hd) he (by omega) (by omega)
      obtain ⟨fn, tmps, assign, body, hy, hR⟩ := hy
      have hlt : (m : Int) < 128 := by omega
      have h00 : (0 : Int) ≤ (m : Int) := by omega
      have HX := Aside0.mk (And.intro hMm (And.intro hKm (And.intro hb (And.intro hd he))))
      clear hMm hKm hb hd he hY
      gi_wp2
      refine hR.mono ?_
      rintro e W3 ⟨rfl, hM3, hK3⟩
      gi_wp2
      go_end0
      obtain ⟨hMm, hKm, hb, hd, he⟩ := HX.out
      exact ⟨⟨_, rfl⟩, ⟨m, by rw [hd, digs_small h]; exact hM3⟩, hK3⟩
    · have hy := hY m pre ((m : Int) % 128 + 128) wr hMm hKm (digs_more hd) he (by omega) (by omega)
      obtain ⟨fn, tmps, assign, body, hy, hR⟩ := hy
      have hlt : (128 : Int) ≤ (m : Int) := by omega
      have h00 : (0 : Int) ≤ (m : Int) := by omega
      have e1 : ((m : Int) % 128 + 128) = ((m % 128 + 128 : Nat) : Int) := by omega
      have E1 := Aside0.mk e1
      have e2 : ((m : Int) / 128) = ((m / 128 : Nat) : Int) := by omega
      have E2 := Aside0.mk e2
      have HX := Aside0.mk (And.intro hMm (And.intro hKm (And.intro hb (And.intro hd he))))
      clear hMm hKm hb hd he hY e1 e2
      gi_wp2
      refine hR.mono ?_
      rintro e W3 ⟨rfl, hM3, hK3⟩
      have hb3 := hM _ _ _ hM3
      obtain ⟨c0, c1⟩ := hb3.cell
      have HB3 := Aside0.mk hb3
      clear hb3
      gi_wp2
      obtain ⟨hMm, hKm, hb, hd, he⟩ := HX.out
      go_roundw
      case rel => exact ⟨m / 128, pre ++ [((m % 128 + 128 : Nat) : Int)], by omega, by rw [List.length_append, List.length_singleton, Nat.pow_succ, ← Nat.div_div_eq_div_mul, ← he], by rw [hd, digs_big h]; simp, by have := hS _ (m / 128) _ _ hM3; rw [E1.out, ← E2.out] at this; exact this, hK _ _ hK3 (KeepsOthers.setCell _ _ _)⟩
      case measure =>
        have e3 := ((Box.set (m := m / 128) HB3.out).left)
        rw [← E2.out] at e3
        rw [e3, hb.left]
        omega
end Go.Proofs.Ytgdelfckhcgnhaa.Code

namespace Go.Proofs.Ytgdelfckhcgnhaa.Code
open Go.RowKit Go.Proofs.Ytgdelfckhcgnhaa.Pa Go.Proofs.YtgdelfckhcgnhaaW.PrintWords Go.Proofs.YtgdelfckhcgnhaaW.PrintLast Go.Proofs.YtgdelfckhcgnhaaW.PrintMore Go.Proofs.Ytgdelfckhcgnhaa.Range
attribute [local go_sem] Oper.semAt_some
set_option linter.unusedVariables false
variable {ob : Bool}

section
variable {P : Program} {Q : Exit → Act → World → Prop} {md : Region.Mode} {S : World → Prop}
theorem takeL {l : List Oper} {i : Nat} {oi : Oper} {v : Value} {fuel : Nat} {listed : Array Bool} {a : Act} {w : World} (hi : l[i]? = some oi)
    (hs : Region.noSelect l.toArray = true) (hf : Region.free md l.toArray listed i = true) (hr : (Region.ready md l.toArray listed).contains i = true)
    (hQ : ∀ c a w, Q (.panic c) (a.put oi.dst v) w → Q (.panic c) a w) (hy : YieldsIf P l.toArray S oi v a) (hS : S w)
    (h : wpAnyH P md l.toArray Q S fuel (listed.setIfInBounds i true) (a.put oi.dst v) w) : wpAnyH P md l.toArray Q S (fuel + 1) listed a w :=
  wpAnyH_take (by simpa using hi) hs hf hr hQ hy hS h
theorem consL {l : List Oper} {fuel : Nat} {listed : Array Bool} {a : Act} {w : World} {i : Nat} {o : Oper} {rs : List Nat} (ho : l[i]? = some o)
    (h : ∀ K' : Act → World → Prop, Shut (∀ a w, S w → (S w → wpAnyH P md l.toArray Q S fuel (listed.setIfInBounds i true) a w) → K' a w) → if Region.wanted o (yielded l.toArray a.tmps) = true then Oper.wp P o a w K' Q else K' (a.put o.dst undef) w)
    (hs : AllReadyH P md l.toArray Q S fuel listed a w rs) : AllReadyH P md l.toArray Q S fuel listed a w (i :: rs) := AllReadyH.cons (by simpa using ho) h hs
end
theorem R_putObj {w : World} {ok : Nat → Prop} {v : Value} {bs : List Int} (h : Kd.R (Kd.int .u8) 5 w 0 ok v bs) {l : Nat} {o : Obj} (o' : Obj) (hl : w.heap[l]? = some o) (ho : o.isCells = false) : Kd.R (Kd.int .u8) 5 (w.putObj l o') 0 ok v bs :=
  Kd.R_of_own (ownsRow_putObj (Kd.own_of_R h) o' hl ho) h.1

/-- Between two rounds: m is left, pre has come. -/
def Mid (ob : Bool) (w : World) (q B : Nat) (F : Nat → Prop) (bs : List Int) (m : Nat) (pre : List Int) (W : World) : Prop :=
  (∃ A cap, Head ob W q A (bs ++ pre).length cap ∧ Kd.R (Kd.int .u8) 5 W 0 (fun k => (F k ∨ w.heap.size ≤ k) ∧ k ≠ q ∧ k ≠ B) (.slice A (bs ++ pre).length cap) (bs ++ pre)) ∧ Went (fun k => F k ∨ k = B) w W ∧ Box W B m
theorem Mid.putObj {w : World} {q B : Nat} {F : Nat → Prop} {bs : List Int} {m : Nat} {pre : List Int} {W : World} (h : Mid ob w q B F bs m pre W) (l : Nat) (o o' : Obj) (hl : w.heap.size ≤ l) (hW : W.heap[l]? = some o) (ho : o.isCells = false) : Mid ob w q B F bs m pre (W.putObj l o') := by
  obtain ⟨⟨A, cap, h1, h2⟩, h3, h4⟩ := h
  have hne : ∀ (k : Nat) (o2 : Obj), W.heap[k]? = some o2 → o2.isCells = true → (W.putObj l o').heap[k]? = some o2 := fun k o2 h k2 => by
    rw [World.putObj_heap_other (fun e => by subst e; rw [hW] at h; cases h; rw [ho] at k2; cases k2)]
    exact h
  exact ⟨⟨A, cap, hne _ _ h1 rfl, R_putObj h2 _ hW ho⟩, h3.putObj hl _, hne _ _ h4 rfl⟩
theorem Mid.setBox {w : World} {q B : Nat} {F : Nat → Prop} {bs : List Int} {m : Nat} {pre : List Int} {W : World} (h : Mid ob w q B F bs m pre W) (hq : q ≠ B) (m' : Nat) : Mid ob w q B F bs m' pre (W.setCell ⟨B, 0, none⟩ (.int .u64 (m' : Int))) := by
  obtain ⟨⟨A, cap, h1, h2⟩, h3, h4⟩ := h
  have hs : Went (fun k => k = B) W (W.setCell ⟨B, 0, none⟩ (.int .u64 (m' : Int))) := Went.setq (S := fun k => k = B) (Went.refl _ W) (.inl rfl) _
  exact ⟨⟨A, cap, h1.kept hs hq, Kd.R_kept h2 hs.kept (fun k hk e => hk.2.2 e)⟩, h3.trans hs (fun _ h => h) (fun k hk => .inl (.inr hk)), h4.set _⟩
theorem Mid.start {w : World} {q B N : Nat} {F : Nat → Prop} {bs : List Int} (h : Out ob w q F bs) (hb : Box w B N) (hB : ¬ F B) : Mid ob w q B F bs N [] w := by
  obtain ⟨A, cap, h1, h2, h3, h4⟩ := h
  refine ⟨⟨A, cap, ?_, ?_⟩, Went.refl _ _, hb⟩
  · rw [List.append_nil]; exact h1
  · rw [List.append_nil]; exact Kd.R_mono h2 (fun k hk => ⟨.inl hk.1, hk.2, fun e => hB (e ▸ hk.1)⟩)
theorem Mid.alloc {w : World} {q B : Nat} {F : Nat → Prop} {bs : List Int} {m : Nat} {pre : List Int} {W : World} (h : Mid ob w q B F bs m pre W) (o : Obj) : Mid ob w q B F bs m pre (W.alloc o) := by
  obtain ⟨⟨A, cap, h1, h2⟩, h3, h4⟩ := h
  have hs : Went (fun _ => False) W (W.alloc o) := (Went.refl _ W).alloc o
  exact ⟨⟨A, cap, h1.kept hs (fun e => e), Kd.R_kept h2 hs.kept (fun k hk e => e)⟩, h3.alloc o, hs.block h4 (fun e => e)⟩
theorem Mid.out {w w0 W : World} {q B m : Nat} {F : Nat → Prop} {bs cs : List Int} (h : Mid ob w q B F bs m cs W) (hb : Below w0.heap.size w0 w) (hF : ∀ k, F k → k < w0.heap.size) (hq : F q) (h0 : w0.heap.size ≤ w.heap.size) (hB : w0.heap.size ≤ B) : OutTurned ob w0 q F (bs ++ cs) W := by
  obtain ⟨⟨A, cap, h1, h2⟩, h3, h4⟩ := h
  refine ⟨fun k => k = q ∨ ((F k ∨ w0.heap.size ≤ k) ∧ k < W.heap.size), ⟨A, cap, h1, Kd.R_mono (Kd.R_bound h2) (fun k hk => ⟨.inr ⟨?_, hk.2.2.1⟩, hk.1.2.1⟩), .inl rfl, fun k hk => ?_⟩, fun k hk => ?_, (Went.of_below hb (fun _ => False)).trans h3 (fun _ h => h.elim) (fun k hk => ?_)⟩
  · rcases hk.1.1 with h | h
    · exact .inl h
    · exact .inr (Nat.le_trans h0 h)
  · rcases hk with rfl | hk
    · exact h1.lt
    · exact hk.2
  · rcases hk with rfl | hk
    · exact .inl hq
    · exact hk.1
  · rcases hk with h | rfl
    · exact .inl h
    · exact .inr hB
/-- What a round leaves. -/
theorem Mid.stored {w W w1 : World} {q B m : Nat} {F : Nat → Prop} {bs pre : List Int} {x : Int} {A A1 : Option Addr} {cap c1 : Nat} (hF : ∀ k, F k → k < w.heap.size) (hq : F q) (hB : B < w.heap.size) (hBq : q ≠ B) (h1 : Head ob W q A (bs ++ pre).length cap) (h2 : Kd.R (Kd.int .u8) 5 W 0 (fun k => (F k ∨ w.heap.size ≤ k) ∧ k ≠ q ∧ k ≠ B) (.slice A (bs ++ pre).length cap) (bs ++ pre)) (h3 : Went (fun k => F k ∨ k = B) w W) (h4 : Box W B m)
    (ho : Kd.R (Kd.int .u8) 5 w1 0 (fun k => (F k ∨ w.heap.size ≤ k) ∧ k ≠ q ∧ k ≠ B) (.slice A1 ((bs ++ pre) ++ [x]).length c1) ((bs ++ pre) ++ [x])) (hg : W.grownBy w1 (Value.slice A (bs ++ pre).length cap).ownBlock) :
    KeepsOthers W (w1.setCell ⟨q, 0, none⟩ (.slice A1 ((bs ++ pre) ++ [x]).length c1)) ∧ Mid ob w q B F bs m (pre ++ [x]) (w1.setCell ⟨q, 0, none⟩ (.slice A1 ((bs ++ pre) ++ [x]).length c1)) := by
  have hr := h2.1
  have hne : some q ≠ (Value.slice A (bs ++ pre).length cap).ownBlock := fun e => (hr q e.symm).2.1 rfl
  have hnB : some B ≠ (Value.slice A (bs ++ pre).length cap).ownBlock := fun e => (hr B e.symm).2.2 rfl
  have hh : Head ob w1 q A (bs ++ pre).length cap := (hg.block q h1.lt hne).trans h1
  have hs : Went (fun k => k = q) w1 (w1.setCell ⟨q, 0, none⟩ (.slice A1 ((bs ++ pre) ++ [x]).length c1)) := Went.setq (S := fun k => k = q) (Went.refl _ w1) (.inl rfl) _
  have hw1 : Went (fun k => F k ∨ k = B) w w1 := h3.grown hg (fun k e => by rcases (hr k e).1 with h | h; exact .inl (.inl h); exact .inr h)
  refine ⟨(KeepsOthers.of_grownBy hg (fun j o e he => ?_)).trans (KeepsOthers.setCell _ _ _), ⟨A1, c1, ?_, ?_⟩, hw1.trans hs (fun _ h => h) (fun k hk => by subst hk; exact .inl (.inl hq)), ?_⟩
  · obtain ⟨_, _, _, _, _, cells, hc⟩ := (Kd.R_bound h2).1 j e
    rw [hc] at he
    cases he
    rfl
  · rw [← List.append_assoc]; exact hh.set _ _ _
  · rw [← List.append_assoc]
    exact Kd.R_kept ho hs.kept (fun k hk e => hk.2.1 e)
  · have hb : B < W.heap.size := Nat.lt_of_lt_of_le hB h3.size
    exact hs.block ((hg.block B hb hnB).trans h4) (fun e => hBq e.symm)

set_option maxRecDepth 100000 in
set_option maxHeartbeats 8000000 in
theorem put_any (q N : Nat) (F : Nat → Prop) (bs : List Int) (w : World) (hO : Out ob w q F bs) (hN : N < 18446744073709551616) (hl : bs.length ≤ 1099511627776) :
    Calls Try.prog 62 #[.pointer (some ⟨q, 0, none⟩), .int .u64 (N : Int)] w fun e w' => e = .returned (.tuple #[]) ∧ OutTurned ob w q F (bs ++ digs N) w' := by
  have hd := digits_any (N : Int)
  have HN := Aside0.mk hN
  have ZN := Aside0.mk (rfl : (N : Int) = (N : Int))
  clear hN
  refine (callsIn_wide (n := 3)).1 ?_
  refine callsIn_of_wp_marks Try.func62 rfl trivial ?_
  simp only [Try.ntmps62, List.size_toArray, List.length_cons, List.length_nil, Nat.reduceAdd, Nat.reduceSub, Array.replicate_succ, Array.replicate_zero, List.push_toArray, List.append_toArray, List.nil_append, List.cons_append]
  gi_wp2_with (refine ⟨trivial, ?_⟩; gi_at_call 65; refine (callsIn_wide.2 (hd _)).mono ?_; rintro e w' ⟨rfl, rfl⟩)
  obtain ⟨bo, hbo⟩ : ∃ bo, bo = w.heap.size := ⟨_, rfl⟩
  obtain ⟨B, hB⟩ : ∃ B, B = bo + 1 := ⟨_, rfl⟩
  have hBel : Below w.heap.size w ((w.alloc (.cells #[.pointer (some ⟨q, 0, none⟩)] 95)).alloc (.cells #[.int .u64 (N : Int)] 106)) := ((Below.refl _ w).alloc (Nat.le_refl _) _).alloc (by simp) _
  have hO2 := hO.below hBel
  have hbox : Box ((w.alloc (.cells #[.pointer (some ⟨q, 0, none⟩)] 95)).alloc (.cells #[.int .u64 (N : Int)] 106)) B N := by
    unfold Box
    have := World.alloc_heap_new (w.alloc (.cells #[.pointer (some ⟨q, 0, none⟩)] 95)) (.cells #[.int .u64 (N : Int)] 106)
    rw [World.size_alloc, ← hbo, ← hB] at this
    exact this
  have hpt : ((w.alloc (.cells #[.pointer (some ⟨q, 0, none⟩)] 95)).alloc (.cells #[.int .u64 (N : Int)] 106)).heap[bo]? = some (.cells #[.pointer (some ⟨q, 0, none⟩)] 95 (0, 0)) := by
    rw [hbo]
    exact (Below.heap_alloc _ _ _ (by simp)).trans (World.alloc_heap_new w _)
  have hsz : ((w.alloc (.cells #[.pointer (some ⟨q, 0, none⟩)] 95)).alloc (.cells #[.int .u64 (N : Int)] 106)).heap.size = w.heap.size + 2 := by simp
  rw [← hbo, ← hB]
  generalize ((w.alloc (.cells #[.pointer (some ⟨q, 0, none⟩)] 95)).alloc (.cells #[.int .u64 (N : Int)] 106)) = W0 at *
  obtain ⟨_, _, _, _, hq, hFl⟩ := hO
  have hFl2 : ∀ k, F k → k < W0.heap.size := fun k hk => by have := hFl k hk; omega
  have hqB : q ≠ B := by have := hFl q hq; omega
  have hqo : q ≠ bo := by have := hFl q hq; omega
  have hoB : bo ≠ B := by omega
  have hFo : ¬ F bo := fun h => by have := hFl bo h; omega
  have hFB : ¬ F B := fun h => by have := hFl B h; omega
  have hm0 : Mid ob W0 q B F bs N [] W0 := Mid.start hO2 hbox hFB
  have hle0 : w.heap.size ≤ W0.heap.size := by omega
  have HS := Aside0.mk (And.intro hbo (And.intro hB hsz))
  clear hbo hB hsz
  refine range_all rfl (by omega) (gf := 66) (lb := #[.pointer (some ⟨B, 0, none⟩)]) rfl trivial (Go.Proofs.enters_of Try.func66 (by kernel_rfl) rfl) (α := Int) (encs := fun x => #[.int .u8 x]) (fun _ => rfl)
    (fun pre W => pre.length < (digs N).length ∧ Mid ob W0 q B F bs (N / 128 ^ pre.length) pre W) (fun pre W => Mid ob W0 q B F bs (N / 128 ^ (pre.length - 1)) pre W) (fun xs W => xs = digs N ∧ ∃ m, Mid ob W0 q B F bs m xs W)
    (fun pre W l o o' h1 h2 h3 h => ⟨h.1, h.2.putObj l o o' h1 h2 h3⟩) (fun pre W l o o' h1 h2 h3 h => h.putObj l o o' h1 h2 h3) (fun pre W l o o' h1 h2 h3 h => ⟨h.1, h.2.choose, h.2.choose_spec.putObj l o o' h1 h2 h3⟩)
    (fun o o' => ⟨digs_ne N, by simpa using (hm0.alloc o).alloc o'⟩)
    (fun x => { tmps := #[.pointer (some ⟨q, 0, none⟩), .int .u64 (N : Int), .pointer (some ⟨bo, 0, none⟩), undef, .int .u8 x, .int .u64 (N : Int), .func (.func 66) #[] #[.pointer (some ⟨B, 0, none⟩)], .int .u8 x, undef, undef, undef, undef, undef, undef, undef, undef, undef, undef], defers := [] }) ?assign ?body ?iter ?done
  case assign =>
    intro l x W K hK
    gi_wp2
    exact hK
  case iter =>
    intro l K hK hY W hJ hk
    refine (iter_in Fence.wide 2 trivial rfl (by omega) l B N HN.out (Mid ob W0 q B F bs) K (fun m pre W h => h.2.2) (fun m m' pre W h => h.setBox hqB m') hK (fun m pre x W h hk hl he _ _ => ?_) W (by simpa using hJ.2) hk).mono ?_
    · obtain ⟨fn, tmps, assign, body, hy, hR⟩ := hY pre x W ⟨hl, by rw [← he]; exact h⟩ hk
      refine ⟨fn, tmps, assign, body, hy, hR.mono ?_⟩
      rintro e W2 ⟨h1, h2, h3⟩
      refine ⟨h1, ?_, h3⟩
      rw [List.length_append, List.length_singleton, Nat.add_sub_cancel, ← he] at h2
      exact h2
    · rintro e W2 ⟨h1, ⟨m, h2⟩, h3⟩
      exact ⟨h1, _, ⟨rfl, m, h2⟩, h3⟩
  case done =>
    rintro D xs W ⟨rfl, m, hm⟩ hD hle
    gi_wp2
    refine ⟨by simp, .inl ⟨_, _, rfl, run_takeDeferred hD, ?_⟩⟩
    refine ⟨_, results_none rfl _ _ _, rfl, ?_⟩
    obtain ⟨hbo, hB, hsz⟩ := HS.out
    exact (hm.putObj D _ (.deferred none) hle hD rfl).out hBel hFl hq (by omega) (by omega)
  case body =>
    rintro l pre x W ⟨hl, hm⟩
    have hten := digs_ten HN.out
    obtain ⟨⟨A, cap, h1, h2⟩, h3, h4⟩ := hm
    have hbo : W.cell? ⟨bo, 0, none⟩ = some (.pointer (some ⟨q, 0, none⟩)) := by
      rw [cell_of_row _ _ _ _ _ _ (h3.block hpt (fun e => e.elim hFo (fun e => hoB e)))]; rfl
    have hq0 := h1.cell
    obtain ⟨hq0, hq1⟩ := hq0
    have hql := h1.lt
    have hol := World.block_lt_of_cell? _ _ hbo
    have hsW := h3.size
    obtain ⟨L, hL⟩ : ∃ L, L = (bs ++ pre).length := ⟨_, rfl⟩
    have hLn : L = bs.length + pre.length := by rw [hL, List.length_append]
    rw [← hL] at hq0 h1 h2
    have hne : some bo ≠ (Value.slice A L cap).ownBlock := fun e => by
      rcases (h2.1 bo e.symm).1 with h | h
      · exact hFo h
      · have := (Array.getElem?_eq_some_iff.1 hpt).1; omega
    have hnq : some q ≠ (Value.slice A L cap).ownBlock := fun e => (h2.1 q e.symm).2.1 rfl
    have HH := Aside0.mk (And.intro h1 (And.intro h2 (And.intro h3 (And.intro h4 (And.intro hL (And.intro hne hnq))))))
    have hbl := (Array.getElem?_eq_some_iff.1 hbox).1
    have hql0 := hFl2 q hq
    have hlen : (L + 1) * 1 ≤ 140737488355328 := by omega
    clear h1 h2 h3 h4 hd hL hLn hne hnq
    refine wpIn_block ?_
    refine region_in (by kernel_rfl) (by kernel_rfl) (by simp [LetsOut, Exit.inBlock]) ?_
    refine wpAny_of_held (S := fun W => W.cell? ⟨bo, 0, none⟩ = some (.pointer (some ⟨q, 0, none⟩))) _ _ _ _ ?_
    have hS : (W.drew).cell? ⟨bo, 0, none⟩ = some (.pointer (some ⟨q, 0, none⟩)) := hbo
    change wpAnyH Try.prog .any _ _ _ 11 #[false, false, false, false, false, false, false, false, false, false, false] _ _
    refine takeL (i := 0) (v := ?_) rfl (by kernel_rfl) (by kernel_rfl) (by kernel_rfl) (fun _ _ _ h => h) (Or.inl ⟨by rfl, ?hy⟩) hS ?_
    case hy => intro w hSw; go_simp; first | done | rfl
    simp only [Act.put, List.setIfInBounds_toArray, List.set_cons_zero, List.set_cons_succ]
    refine takeL (i := 1) (v := ?_) rfl (by kernel_rfl) (by kernel_rfl) (by kernel_rfl) (fun _ _ _ h => h) (Or.inl ⟨by rfl, ?hy⟩) hS ?_
    case hy => intro w hSw; go_simp; first | done | rfl
    simp only [Act.put, List.setIfInBounds_toArray, List.set_cons_zero, List.set_cons_succ]
    refine takeL (i := 2) (v := ?_) rfl (by kernel_rfl) (by kernel_rfl) (by kernel_rfl) (fun _ _ _ h => h) (Or.inl ⟨by rfl, ?hy⟩) hS ?_
    case hy => intro w hSw; go_simp; first | done | rfl
    simp only [Act.put, List.setIfInBounds_toArray, List.set_cons_zero, List.set_cons_succ]
    refine takeL (i := 3) (v := ?_) rfl (by kernel_rfl) (by kernel_rfl) (by kernel_rfl) (fun _ _ _ h => h) (Or.inl ⟨by rfl, ?hy⟩) hS ?_
    case hy => intro w hSw; go_simp; first | done | rfl
    simp only [Act.put, List.setIfInBounds_toArray, List.set_cons_zero, List.set_cons_succ]
    refine takeL (i := 5) (v := ?_) rfl (by kernel_rfl) (by kernel_rfl) (by kernel_rfl) (fun _ _ _ h => h) (Or.inl ⟨by rfl, ?hy⟩) hS ?_
    case hy => intro w hSw; go_simp; first | done | rfl
    simp only [Act.put, List.setIfInBounds_toArray, List.set_cons_zero, List.set_cons_succ]
    refine wpAnyH_ready (rs := [4, 6]) (by kernel_rfl) (by simp) ?_
    refine consL rfl (fun K hK => ?_) (consL rfl (fun K hK => ?_) AllReadyH.nil)
    rotate_left
    · go_simp
      refine hK.out _ _ ((World.cell?_alloc_some _ _ _ (by simp [hbo])).trans hbo) (fun hS => ?_)
      clear hK K
      refine wpAnyH_ready (rs := [4]) (by kernel_rfl) (by simp) ?_
      refine consL rfl (fun K hK => ?_) AllReadyH.nil
      go_simp
      refine hK.out _ _ hS (fun hS => ?_)
      clear hK K
      refine wpAnyH_ready (rs := [7]) (by kernel_rfl) (by simp) ?_
      refine consL rfl (fun K hK => ?_) AllReadyH.nil
      obtain ⟨h1, h2, h3, h4, hL, hne, hnq⟩ := HH.out
      refine Kd.R_append_step (Kd.int .u8) (w0 := W) (W := W.drew) 0 (by rfl) (.tmp 12) (.tmp 14) 22 5 (.int .u8 0) 1 (by rfl) Try.underlying22 (by kernel_rfl) rfl (by decide) (by decide) (.slice A L cap) (bs ++ pre) x [.int .u8 x] (fun k => (F k ∨ W0.heap.size ≤ k) ∧ k ≠ q ∧ k ≠ B) (fun _ => False) (by rfl) (by rfl) rfl (fun _ h => h.elim) (fun k hk => ?fresh) (Kd.R_kept h2 ((Kept.refl W (fun _ => False)).drew) (fun _ _ h => h)) ⟨rfl, rfl, rfl, Nat.le_refl _, fun _ _ => rfl⟩ (Nat.zero_le _) ?len ?_
      case fresh =>
        have hk' : W.heap.size ≤ k := hk
        exact ⟨.inr (by omega), by omega, by omega⟩
      case len => rw [← hL]; exact hlen
      intro v1 w1 ho hb hg hat
      obtain ⟨A1, c1, rfl⟩ := own_slice (Kd.own_of_R ho)
      have hg' : W.grownBy w1 (Value.slice A L cap).ownBlock := ⟨hg.os, hg.tape, hg.output, hg.size, hg.block⟩
      have hbo1 : w1.cell? ⟨bo, 0, none⟩ = some (.pointer (some ⟨q, 0, none⟩)) := hg'.cell (a := ⟨bo, 0, none⟩) hbo hne
      have hq2 : w1.cell? ⟨q, 0, none⟩ = some (.slice A L cap) := hg'.cell (a := ⟨q, 0, none⟩) hq0 hnq
      have hq3 : w1.frozen? ⟨q, 0, none⟩ = false := (World.frozen?_of_block (hg'.block q hql hnq)).trans hq1
      refine hK.out _ _ hbo1 (fun hS => ?_)
      clear hK K
      have HY := Aside0.mk (And.intro ho hg')
      clear h1 h2 h3 h4 hL hne hnq ho hb hg hat hg'
      obtain ⟨L1, hL1⟩ : ∃ L1, L1 = (bs ++ pre ++ [x]).length := ⟨_, rfl⟩
      rw [← hL1] at HY ⊢
      have HL1 := Aside0.mk hL1
      clear hL1
      simp only [Act.put, List.setIfInBounds_toArray, List.set_cons_zero, List.set_cons_succ]
      refine takeL (i := 8) (v := ?_) rfl (by kernel_rfl) (by kernel_rfl) (by kernel_rfl) (fun _ _ _ h => h) (Or.inl ⟨by rfl, ?hy⟩) hS ?_
      case hy => intro w hSw; go_simp; first | done | rfl
      simp only [Act.put, List.setIfInBounds_toArray, List.set_cons_zero, List.set_cons_succ]
      refine takeL (i := 9) (v := ?_) rfl (by kernel_rfl) (by kernel_rfl) (by kernel_rfl) (fun _ _ _ h => h) (Or.inl ⟨by rfl, ?hy⟩) hS ?_
      case hy => intro w hSw; go_simp; first | done | rfl
      simp only [Act.put, List.setIfInBounds_toArray, List.set_cons_zero, List.set_cons_succ]
      refine wpAnyH_ready (rs := [10]) (by kernel_rfl) (by simp) ?_
      refine consL rfl (fun K hK => ?_) AllReadyH.nil
      go_simp
      refine hK.out _ _ ((World.cell?_setCell_far _ _ _ _ hqo).trans hbo1) (fun hS => ?_)
      clear hK K
      refine wpAnyH_done (by kernel_rfl) ?_ _
      obtain ⟨h1, h2, h3, h4, hL, hne, hnq⟩ := HH.out
      obtain ⟨ho, hg'⟩ := HY.out
      have hL1 := HL1.out
      subst hL
      subst hL1
      have hst := Mid.stored hFl2 hq hbl hqB h1 h2 h3 h4 ho hg'
      refine ⟨rfl, hst.1, ?_⟩
      rw [List.length_append, List.length_singleton, Nat.add_sub_cancel]
      exact hst.2
    · go_simp
      refine hK.out _ _ hS (fun hS => ?_)
      clear hK K
      refine wpAnyH_ready (rs := [6]) (by kernel_rfl) (by simp) ?_
      refine consL rfl (fun K hK => ?_) AllReadyH.nil
      go_simp
      refine hK.out _ _ ((World.cell?_alloc_some _ _ _ (by simp [hbo])).trans hbo) (fun hS => ?_)
      clear hK K
      refine wpAnyH_ready (rs := [7]) (by kernel_rfl) (by simp) ?_
      refine consL rfl (fun K hK => ?_) AllReadyH.nil
      obtain ⟨h1, h2, h3, h4, hL, hne, hnq⟩ := HH.out
      refine Kd.R_append_step (Kd.int .u8) (w0 := W) (W := W.drew) 0 (by rfl) (.tmp 12) (.tmp 14) 22 5 (.int .u8 0) 1 (by rfl) Try.underlying22 (by kernel_rfl) rfl (by decide) (by decide) (.slice A L cap) (bs ++ pre) x [.int .u8 x] (fun k => (F k ∨ W0.heap.size ≤ k) ∧ k ≠ q ∧ k ≠ B) (fun _ => False) (by rfl) (by rfl) rfl (fun _ h => h.elim) (fun k hk => ?fresh) (Kd.R_kept h2 ((Kept.refl W (fun _ => False)).drew) (fun _ _ h => h)) ⟨rfl, rfl, rfl, Nat.le_refl _, fun _ _ => rfl⟩ (Nat.zero_le _) ?len ?_
      case fresh =>
        have hk' : W.heap.size ≤ k := hk
        exact ⟨.inr (by omega), by omega, by omega⟩
      case len => rw [← hL]; exact hlen
      intro v1 w1 ho hb hg hat
      obtain ⟨A1, c1, rfl⟩ := own_slice (Kd.own_of_R ho)
      have hg' : W.grownBy w1 (Value.slice A L cap).ownBlock := ⟨hg.os, hg.tape, hg.output, hg.size, hg.block⟩
      have hbo1 : w1.cell? ⟨bo, 0, none⟩ = some (.pointer (some ⟨q, 0, none⟩)) := hg'.cell (a := ⟨bo, 0, none⟩) hbo hne
      have hq2 : w1.cell? ⟨q, 0, none⟩ = some (.slice A L cap) := hg'.cell (a := ⟨q, 0, none⟩) hq0 hnq
      have hq3 : w1.frozen? ⟨q, 0, none⟩ = false := (World.frozen?_of_block (hg'.block q hql hnq)).trans hq1
      refine hK.out _ _ hbo1 (fun hS => ?_)
      clear hK K
      have HY := Aside0.mk (And.intro ho hg')
      clear h1 h2 h3 h4 hL hne hnq ho hb hg hat hg'
      obtain ⟨L1, hL1⟩ : ∃ L1, L1 = (bs ++ pre ++ [x]).length := ⟨_, rfl⟩
      rw [← hL1] at HY ⊢
      have HL1 := Aside0.mk hL1
      clear hL1
      simp only [Act.put, List.setIfInBounds_toArray, List.set_cons_zero, List.set_cons_succ]
      refine takeL (i := 8) (v := ?_) rfl (by kernel_rfl) (by kernel_rfl) (by kernel_rfl) (fun _ _ _ h => h) (Or.inl ⟨by rfl, ?hy⟩) hS ?_
      case hy => intro w hSw; go_simp; first | done | rfl
      simp only [Act.put, List.setIfInBounds_toArray, List.set_cons_zero, List.set_cons_succ]
      refine takeL (i := 9) (v := ?_) rfl (by kernel_rfl) (by kernel_rfl) (by kernel_rfl) (fun _ _ _ h => h) (Or.inl ⟨by rfl, ?hy⟩) hS ?_
      case hy => intro w hSw; go_simp; first | done | rfl
      simp only [Act.put, List.setIfInBounds_toArray, List.set_cons_zero, List.set_cons_succ]
      refine wpAnyH_ready (rs := [10]) (by kernel_rfl) (by simp) ?_
      refine consL rfl (fun K hK => ?_) AllReadyH.nil
      go_simp
      refine hK.out _ _ ((World.cell?_setCell_far _ _ _ _ hqo).trans hbo1) (fun hS => ?_)
      clear hK K
      refine wpAnyH_done (by kernel_rfl) ?_ _
      obtain ⟨h1, h2, h3, h4, hL, hne, hnq⟩ := HH.out
      obtain ⟨ho, hg'⟩ := HY.out
      have hL1 := HL1.out
      subst hL
      subst hL1
      have hst := Mid.stored hFl2 hq hbl hqB h1 h2 h3 h4 ho hg'
      refine ⟨rfl, hst.1, ?_⟩
      rw [List.length_append, List.length_singleton, Nat.add_sub_cancel]
      exact hst.2
end Go.Proofs.Ytgdelfckhcgnhaa.Code

namespace Go.Proofs.Ytgdelfckhcgnhaa.Code
open Go.RowKit Go.Proofs.Ytgdelfckhcgnhaa.Pa Go.Proofs.YtgdelfckhcgnhaaW.PrintWords Go.Proofs.YtgdelfckhcgnhaaW.PrintLast Go.Proofs.YtgdelfckhcgnhaaW.PrintMore
set_option linter.unusedVariables false
theorem infoE5 : (Try.prog.info? 5).map (fun i => (i.zero, i.size, i.bytes)) = some (some (.int .u8 0), 1, 1) := by kernel_rfl
theorem R_empty {α : Type} (d : Kd α) (e : Nat) (w : World) : d.R e (w.alloc (.cells #[] e)) w.heap.size (fun _ => True) (.slice (some ⟨w.heap.size, 0, none⟩) 0 0) [] :=
  ⟨fun _ _ => trivial, [], ⟨by simp, .inr ⟨w.heap.size, 0, #[], rfl, Nat.le_refl _, heap_alloc_new w _, Nat.le_refl _, by simp [maxLen], by simp, by simp⟩⟩, Reps.none _ _⟩
set_option maxRecDepth 100000 in
set_option maxHeartbeats 2000000 in
theorem clone_any5 (A0 : Option Addr) (c0 : Nat) (l0 : List Int) (w : World) (hr0 : Kd.C (Kd.int .u8) w A0 l0.length l0) (hc0 : l0.length ≤ c0) (hl : l0.length * 1 ≤ 140737488355328) :
    Calls Try.prog 46 #[.slice A0 l0.length c0] w fun e w' => ∃ v, e = .returned v ∧ Kd.R (Kd.int .u8) 5 w' w.heap.size (fun _ => True) v l0 ∧ Below w.heap.size w w' := by
  have HR := Aside0.mk hr0
  have HL := Aside0.mk hl
  cases A0 with
  | none =>
    have he : l0 = [] := by
      cases l0 with
      | nil => rfl
      | cons x r => obtain ⟨ad, h, _⟩ := hr0.2.2 (by simp); cases h
    subst he
    clear hr0 hl
    have kn := fun (w : World) (a : Option Addr) (n c : Nat) => Lib.run_eql_slice_nil (P := Try.prog) w 22 5 a n c 0 0 Try.underlying22
    go_enter Try.func46, Try.ntmps46
    go_wp2
    go_ret
    exact ⟨_, rfl, Kd.R_nil _ _ _ _ _, Below.refl _ _⟩
  | some ad =>
    clear hr0 hl
    have kn := fun (w : World) (a : Option Addr) (n c : Nat) => Lib.run_eql_slice_nil (P := Try.prog) w 22 5 a n c 0 0 Try.underlying22
    go_enter Try.func46, Try.ntmps46
    go_wp2_with ((with_reducible refine gate_builtin (b := .append) (xs := #[.tmp 5, .tmp 6]) rfl ?_); at_builtin; refine Kd.R_append_rows (Kd.int .u8) (w0 := w) w.heap.size rfl (.tmp 5) (.tmp 6) 22 5 (.int .u8 0) 1 rfl Try.underlying22 infoE5 rfl (by decide) (by omega) _ [] l0 _ _ _ (fun _ => True) (fun _ => False) rfl rfl ?aO ?aR (fun _ _ h => h) (fun _ h => h.elim) ?aF ?aB ?aS ?aL ?_; (case aF => exact fun _ _ => trivial); (case aO => exact R_empty _ _ _); (case aR => exact Kd.C_alloc HR.out _); (case aB => exact below_alloc (Below.refl _ _) _); (case aS => simp); (case aL => have := HL.out; simp; omega); intro v1 w2 ho hb hg hat; have HO := Aside0.mk ho; have HB2 := Aside0.mk hb; clear ho hb hg hat)
    go_ret
    exact ⟨_, rfl, HO.out, HB2.out⟩

end Go.Proofs.Ytgdelfckhcgnhaa.Code

namespace Go.Proofs.Ytgdelfckhcgnhaa.Code
open Go.RowKit Go.Proofs.Ytgdelfckhcgnhaa.Pa Go.Proofs.YtgdelfckhcgnhaaW.PrintWords Go.Proofs.YtgdelfckhcgnhaaW.PrintLast Go.Proofs.YtgdelfckhcgnhaaW.PrintMore Go.Proofs.Ytgdelfckhcgnhaa.Range
set_option linter.unusedVariables false
variable {ob : Bool}

theorem put_int (q : Nat) (x : Int) (F : Nat → Prop) (bs : List Int) (w : World) (hO : Out ob w q F bs) (h0 : 0 ≤ x) (h1 : x < 18446744073709551616) (hl : bs.length ≤ 1099511627776) :
    Calls Try.prog 62 #[.pointer (some ⟨q, 0, none⟩), .int .u64 x] w fun e w' => e = .returned (.tuple #[]) ∧ OutTurned ob w q F (bs ++ digs x.toNat) w' := by
  have h := put_any q x.toNat F bs w hO (by omega) hl
  rwa [Int.toNat_of_nonneg h0] at h

set_option maxRecDepth 100000 in
set_option maxHeartbeats 8000000 in
theorem num_any (q : Nat) (n : Int) (F : Nat → Prop) (bs : List Int) (w : World) (hO : Out ob w q F bs) (h1 : n < 9223372036854775808) (hl : bs.length ≤ 1099511627776) :
    Calls Try.prog 51 #[.pointer (some ⟨q, 0, none⟩), .int .i64 n] w fun e w' => e = .returned (.int .i64 (if n < 0 then 1 else 0)) ∧ OutTurned ob w q F (if n < 0 then bs else bs ++ digs n.toNat) w' := by
  by_cases h : n < 0
  · rw [if_pos h, if_pos h]
    go_enter Try.func51, Try.ntmps51
    go_wp2
    go_ret
    exact ⟨rfl, OutTurned.refl hO⟩
  · rw [if_neg h, if_neg h]
    have h0 : 0 ≤ n := by omega
    have hp := put_int q n F bs w hO h0 (by omega) hl
    have HO := Aside0.mk (And.intro hO hl)
    clear hO hl
    go_enter Try.func51, Try.ntmps51
    go_wp2_with (go_at_call 62; refine hp.mono ?_; rintro e w1 ⟨rfl, ht⟩)
    go_ret
    exact ⟨rfl, ht⟩
/-- A number, as one from 0 on. -/
def zig (n : Int) : Nat := if n < 0 then (-(n + 1) * 2 + 1).toNat else (n * 2).toNat

set_option maxRecDepth 100000 in
set_option maxHeartbeats 8000000 in
theorem int_any (q : Nat) (n : Int) (F : Nat → Prop) (bs : List Int) (w : World) (hO : Out ob w q F bs) (h0 : -9223372036854775808 ≤ n) (h1 : n < 9223372036854775808) (hl : bs.length ≤ 1099511627776) :
    Calls Try.prog 63 #[.pointer (some ⟨q, 0, none⟩), .int .i64 n] w fun e w' => e = .returned (.tuple #[]) ∧ OutTurned ob w q F (bs ++ digs (zig n)) w' := by
  by_cases h : n < 0
  · have hp := put_int q (-(n + 1) * 2 + 1) F bs w hO (by omega) (by omega) hl
    rw [zig, if_pos h]
    have HO := Aside0.mk (And.intro hO hl)
    clear hO hl
    go_enter Try.func63, Try.ntmps63
    go_wp2_with (go_at_call 62; refine hp.mono ?_; rintro e w1 ⟨rfl, ht⟩)
    go_end0
    exact ⟨rfl, ht⟩
  · have hp := put_int q (n * 2) F bs w hO (by omega) (by omega) hl
    rw [zig, if_neg h]
    have HO := Aside0.mk (And.intro hO hl)
    clear hO hl
    have h2 : 0 ≤ n := by omega
    go_enter Try.func63, Try.ntmps63
    go_wp2_with (go_at_call 62; refine hp.mono ?_; rintro e w1 ⟨rfl, ht⟩)
    go_end0
    exact ⟨rfl, ht⟩

set_option maxRecDepth 100000 in
set_option maxHeartbeats 8000000 in
theorem all_any (q : Nat) (F : Nat → Prop) (bs : List Int) (w : World) (hO : Out ob w q F bs) (hl : bs.length ≤ 1099511627776) :
    Calls Try.prog 32 #[.pointer (some ⟨q, 0, none⟩)] w fun e w' => ∃ v, e = .returned v ∧ Kd.R (Kd.int .u8) 5 w' w.heap.size (fun _ => True) v bs ∧ Below w.heap.size w w' := by
  obtain ⟨A, cap, h1, h2, h3, h4⟩ := hO
  obtain ⟨_, hle, hC⟩ := Kd.R_reads' h2
  have hcl := clone_any5 A cap bs w hC hle (by omega)
  obtain ⟨h10, h11⟩ := h1.cell
  have HX := Aside0.mk (And.intro h1 (And.intro h2 (And.intro h3 h4)))
  clear h1 h2 h3 h4 hC hl hle
  go_enter Try.func32, Try.ntmps32
  go_wp2_with (go_at_call 46; refine hcl.mono ?_; rintro e w1 ⟨v, rfl, hv, hb⟩)
  go_ret
  exact ⟨_, rfl, hv, hb⟩
end Go.Proofs.Ytgdelfckhcgnhaa.Code

namespace Go.Proofs.Ytgdelfckhcgnhaa.Code
open Go.RowKit Go.Proofs.Ytgdelfckhcgnhaa.Pa Go.Proofs.YtgdelfckhcgnhaaW.PrintWords Go.Proofs.YtgdelfckhcgnhaaW.PrintLast Go.Proofs.YtgdelfckhcgnhaaW.PrintMore
set_option linter.unusedVariables false

structure Seen where
  n : Nat
  long : Nat
  e : Int
deriving DecidableEq
/-- From the k-th digit on, n being what the digits ahead of it came to. -/
def look (k n : Nat) : List Int → Seen
  | [] => ⟨0, 0, 6⟩
  | d :: r => if k = 9 ∧ 1 < d then ⟨0, 0, 7⟩ else if 128 ≤ d then look (k + 1) (n + (d - 128).toNat * 128 ^ k) r else if d = 0 ∧ 0 < k then ⟨0, 0, 7⟩ else ⟨n + d.toNat * 128 ^ k, k + 1, 0⟩
def Bytes (bs : List Int) : Prop := ∀ x ∈ bs, 0 ≤ x ∧ x < 256
theorem Bytes.rd {bs : List Int} (h : Bytes bs) {k : Nat} (hk : k < bs.length) : 0 ≤ rd bs k ∧ rd bs k < 256 := by
  have e : Go.Proofs.YtgdelfckhcgnhaaW.PrintWords.rd bs k = bs[k] := by simp [Go.Proofs.YtgdelfckhcgnhaaW.PrintWords.rd, hk]
  rw [e]
  exact h _ (List.getElem_mem hk)
theorem drop_rd {bs : List Int} {k : Nat} (hk : k < bs.length) : bs.drop k = rd bs k :: bs.drop (k + 1) := by
  rw [List.drop_eq_getElem_cons hk]
  simp [rd, hk]
theorem u64_step {n d sc : Int} (h0 : 0 ≤ n) (h1 : n < sc) (h2 : 0 ≤ d) (h3 : (d + 1) * sc ≤ 18446744073709551616) : 0 ≤ d * sc ∧ n + d * sc < 18446744073709551616 := by
  have e : (d + 1) * sc = d * sc + sc := by rw [Int.add_mul, Int.one_mul]
  have : 0 ≤ d * sc := Int.mul_nonneg h2 (by omega)
  omega

theorem u64_id {x : Int} (h0 : 0 ≤ x) (h1 : x < 18446744073709551616) : IntKind.u64.wrap x = x := by
  simp [IntKind.wrap, IntKind.bits, IntKind.signed]
  omega
theorem pow_small {k : Nat} (h : k ≤ 8) : (128 : Nat) ^ k ≤ 72057594037927936 := Nat.le_trans (Nat.pow_le_pow_right (by decide) h) (by decide)
theorem look_fin {m d S : Int} {n k : Nat} (hm : m = (n : Int)) (hS : S = ((128 ^ k : Nat) : Int)) (hn : n < 128 ^ k) (hd : 0 ≤ d) (hb : (d + 1) * S ≤ 18446744073709551616) : IntKind.u64.wrap (m + IntKind.u64.wrap (d * S)) = ((n + d.toNat * 128 ^ k : Nat) : Int) := by
  obtain ⟨h0, h1⟩ := u64_step (n := m) (d := d) (sc := S) (by omega) (by omega) hd hb
  rw [u64_id h0 (by omega), u64_id (by omega) h1, hm, hS, Int.natCast_add, Int.natCast_mul, Int.toNat_of_nonneg hd]
theorem bound_nine {d S : Int} {k : Nat} (hS : S = ((128 ^ k : Nat) : Int)) (hk : k = 9) (h0 : 0 ≤ d) (hd : d ≤ 1) : (d + 1) * S ≤ 18446744073709551616 := by
  subst hk
  have : S = 9223372036854775808 := by rw [hS]; rfl
  rw [this]
  omega
theorem bound_less {d S : Int} {k : Nat} (hS : S = ((128 ^ k : Nat) : Int)) (hk : k ≤ 8) (h0 : 0 ≤ d) (hd : d < 128) : (d + 1) * S ≤ 18446744073709551616 := by
  have h := pow_small hk
  have h2 : S ≤ 72057594037927936 := by rw [hS]; omega
  clear h
  have : (d + 1) * S ≤ 128 * S := Int.mul_le_mul_of_nonneg_right (by omega) (by rw [hS]; exact Int.natCast_nonneg _)
  omega
theorem look_next {d n k : Nat} (hn : n < 128 ^ k) (hd : d < 128) : n + d * 128 ^ k < 128 ^ (k + 1) := by
  have : (d + 1) * 128 ^ k ≤ 128 * 128 ^ k := Nat.mul_le_mul_right _ (by omega)
  rw [Nat.add_mul, Nat.one_mul] at this
  rw [Nat.pow_succ]
  omega

set_option maxRecDepth 100000 in
set_option maxHeartbeats 8000000 in
theorem look_any (g : Nat) (A : Option Addr) (cap : Nat) (bs : List Int) (w : World) (h : w.cell? ⟨g, 0, none⟩ = some (.slice A bs.length cap)) (hC : Kd.C (Kd.int .u8) w A bs.length bs) (hb : Bytes bs) :
    Calls Try.prog 64 #[.pointer (some ⟨g, 0, none⟩)] w fun e w' => e = .returned (.tuple #[.int .u64 ((look 0 0 bs).n : Int), .int .i64 ((look 0 0 bs).long : Int), .int .i64 (look 0 0 bs).e]) ∧ w' = w := by
  have HC := Aside0.mk hC
  have HB := Aside0.mk hb
  have hmax := Kd.C_max hC
  obtain ⟨r, hr⟩ : ∃ r, r = look 0 0 bs := ⟨_, rfl⟩
  rw [← hr]
  have HR := Aside0.mk hr
  clear hC hb hr
  go_enter Try.func64, Try.ntmps64
  go_wp2
  go_loop [5, 6, 16] (fun vn vs vi => ∃ k n : Nat, vi = .int .i64 (k : Int) ∧ vn = .int .u64 (n : Int) ∧ vs = .int .u64 ((128 ^ k : Nat) : Int) ∧ k ≤ 9 ∧ k ≤ bs.length ∧ n < 128 ^ k ∧ Aside0 (r = look k n (bs.drop k))) (fun _ _ i => bs.length - (intOf i).toNat)
  case atStart => exact ⟨0, 0, rfl, rfl, rfl, by omega, by omega, by simp, ⟨HR.out⟩⟩
  case round =>
    obtain ⟨k, n, rfl, rfl, rfl, hk9, hkl, hn, HL⟩ := hrel
    obtain ⟨z, hz⟩ : ∃ z : Int, z = (k : Int) := ⟨_, rfl⟩
    obtain ⟨m, hm⟩ : ∃ m : Int, m = (n : Int) := ⟨_, rfl⟩
    obtain ⟨S, hS⟩ : ∃ S : Int, S = ((128 ^ k : Nat) : Int) := ⟨_, rfl⟩
    have HZ := Aside0.mk (And.intro hz (And.intro hm (And.intro hS (And.intro hk9 (And.intro hkl hn)))))
    have hS0 : 0 < 128 ^ k := Nat.pow_pos (by decide)
    rw [← hz, ← hm, ← hS]
    have z0 : 0 ≤ z := by omega
    have z9 : z ≤ 9 := by omega
    have m0 : 0 ≤ m := by omega
    have m1 : m < S := by omega
    have S0 : 0 < S := by omega
    have hk10 : (z == 10) = false := by simp; omega
    by_cases hk : k < bs.length
    · have hd := HB.out.rd hk
      have hdr := drop_rd hk
      have hL := HL.out
      rw [hdr] at hL
      have p1 : z < (bs.length : Int) := by omega
      rw [← hz] at hd hL
      obtain ⟨ad, eA, hx⟩ := Kd.at_int HC.out z z0 p1
      cases eA
      obtain ⟨d, hdd⟩ : ∃ d, d = rd bs z := ⟨_, rfl⟩
      rw [← hdd] at hd hx hL
      obtain ⟨hd0, hd1⟩ := hd
      clear hdr HL hdd hz hm hS hk9 hkl hn hS0
      by_cases h9 : k = 9
      · have H9 := Aside0.mk h9
        have hz9 : (z == 9) = true := by have := HZ.out.1; simp; omega
        by_cases h1 : 1 < d
        · rw [look, if_pos ⟨h9, h1⟩] at hL
          subst hL
          clear h9 hk
          go_wp2
          go_ret3
          exact ⟨rfl, rfl⟩
        · rw [look, if_neg (fun h => h1 h.2)] at hL
          have h128 : d < 128 := by omega
          rw [if_neg (by omega)] at hL
          have hkp : 0 < z := by have := HZ.out.1; omega
          have h1' : d ≤ 1 := by omega
          by_cases hz : d = 0
          · rw [if_pos ⟨hz, by omega⟩] at hL
            subst hL
            have hd : (d == 0) = true := by simp [hz]
            clear h9 hk hz
            go_wp2
            go_ret3
            exact ⟨rfl, rfl⟩
          · rw [if_neg (fun h => hz h.1)] at hL
            have HLL := Aside0.mk hL
            clear hL
            have hd : (d == 0) = false := by simp [hz]
            clear h9 hk hz
            go_wp2
            go_ret3
            obtain ⟨ez, em, eS, ek, el, en⟩ := HZ.out
            refine ⟨?_, rfl⟩
            rw [HLL.out]
            show Ending.returned (.tuple #[.int .u64 _, .int .i64 _, .int .i64 0]) = _
            rw [look_fin em eS en hd0 (bound_nine eS (by have := H9.out; exact this) hd0 h1'), ez]
            rfl
      · have H9 := Aside0.mk h9
        have hz9 : (z == 9) = false := by have := HZ.out.1; simp; omega
        by_cases h128 : 128 ≤ d
        · rw [look, if_neg (fun h => h9 h.1), if_pos h128] at hL
          have HLL := Aside0.mk hL
          have HK := Aside0.mk hk
          clear hk h9 hL
          go_wp2
          obtain ⟨ez, em, eS, ek, el, en⟩ := HZ.out
          have hk := HK.out
          have h8 : k ≤ 8 := by have := H9.out; omega
          have hpw : S * 128 = ((128 ^ (k + 1) : Nat) : Int) := by rw [eS, Nat.pow_succ, Int.natCast_mul]; rfl
          have hpb := pow_small h8
          refine ⟨⟨k + 1, n + (d - 128).toNat * 128 ^ k, by rw [ez]; rfl, ?_, ?_, by omega, by omega, look_next en (by omega), ⟨HLL.out⟩⟩, ?_⟩
          · rw [look_fin em eS en (by omega) (bound_less eS h8 (by omega) (by omega))]
          · rw [u64_id (by omega) (by omega), hpw]
          · simp [intOf]
            omega
        · have h128' : d < 128 := by omega
          rw [look, if_neg (fun h => h9 h.1), if_neg h128] at hL
          by_cases hz : d = 0
          · have hd : (d == 0) = true := by simp [hz]
            by_cases hk0 : 0 < k
            · have hkp : 0 < z := by have := HZ.out.1; omega
              rw [if_pos ⟨hz, hk0⟩] at hL
              subst hL
              clear h9 hk hz hk0
              go_wp2
              go_ret3
              exact ⟨rfl, rfl⟩
            · have hkp : z ≤ 0 := by have := HZ.out.1; omega
              rw [if_neg (fun h => hk0 h.2)] at hL
              have HLL := Aside0.mk hL
              clear hL
              clear h9 hk hz hk0
              go_wp2
              go_ret3
              obtain ⟨ez, em, eS, ek, el, en⟩ := HZ.out
              refine ⟨?_, rfl⟩
              rw [HLL.out]
              show Ending.returned (.tuple #[.int .u64 _, .int .i64 _, .int .i64 0]) = _
              rw [look_fin em eS en hd0 (bound_less eS (by have := H9.out; omega) hd0 h128'), ez]
              rfl
          · have hd : (d == 0) = false := by simp [hz]
            rw [if_neg (fun h => hz h.1)] at hL
            have HLL := Aside0.mk hL
            clear hL
            clear h9 hk hz
            go_wp2
            go_ret3
            obtain ⟨ez, em, eS, ek, el, en⟩ := HZ.out
            refine ⟨?_, rfl⟩
            rw [HLL.out]
            show Ending.returned (.tuple #[.int .u64 _, .int .i64 _, .int .i64 0]) = _
            rw [look_fin em eS en hd0 (bound_less eS (by have := H9.out; omega) hd0 h128'), ez]
            rfl
    · rw [List.drop_eq_nil_of_le (by omega)] at HL
      have hL := HL.out
      rw [look] at hL
      subst hL
      have p1 : (bs.length : Int) ≤ z := by omega
      clear HL hz hm hS hk9 hkl hn hS0 hk
      go_wp2
      go_ret3
      exact ⟨rfl, rfl⟩
end Go.Proofs.Ytgdelfckhcgnhaa.Code

namespace Go.Proofs.Ytgdelfckhcgnhaa.Code
open Go.RowKit Go.Proofs.Ytgdelfckhcgnhaa.Pa Go.Proofs.YtgdelfckhcgnhaaW.PrintWords Go.Proofs.YtgdelfckhcgnhaaW.PrintLast Go.Proofs.YtgdelfckhcgnhaaW.PrintMore
set_option linter.unusedVariables false

theorem look_ends : ∀ (bs : List Int) (k n : Nat), (k ≤ 9) → n < 128 ^ k → Bytes bs → ((look k n bs).e = 0 ∧ k < (look k n bs).long ∧ (look k n bs).long ≤ k + bs.length ∧ (look k n bs).long ≤ 10 ∧ (look k n bs).n < 18446744073709551616) ∨ (((look k n bs).e = 6 ∨ (look k n bs).e = 7) ∧ (look k n bs).n = 0 ∧ (look k n bs).long = 0)
  | [], k, n, hk, hn, hb => .inr ⟨.inl rfl, rfl, rfl⟩
  | d :: r, k, n, hk, hn, hb => by
    have hd := hb d (by simp)
    rw [look]
    by_cases h1 : k = 9 ∧ 1 < d
    · rw [if_pos h1]; exact .inr ⟨.inr rfl, rfl, rfl⟩
    · rw [if_neg h1]
      by_cases h2 : 128 ≤ d
      · rw [if_pos h2]
        have hk8 : k ≤ 8 := by
          rcases Nat.lt_or_ge k 9 with h | h
          · omega
          · exact absurd ⟨by omega, by omega⟩ h1
        rcases look_ends r (k + 1) (n + (d - 128).toNat * 128 ^ k) (by omega) (look_next hn (by omega)) (fun x hx => hb x (by simp [hx])) with h | h
        · refine .inl ⟨h.1, by omega, by rw [List.length_cons]; omega, h.2.2.2.1, h.2.2.2.2⟩
        · exact .inr h
      · rw [if_neg h2]
        by_cases h3 : d = 0 ∧ 0 < k
        · rw [if_pos h3]; exact .inr ⟨.inr rfl, rfl, rfl⟩
        · rw [if_neg h3]
          refine .inl ⟨rfl, by simp, by simp, by simp; omega, ?_⟩
          show n + d.toNat * 128 ^ k < _
          rcases Nat.lt_or_ge k 9 with h | h
          · have h5 := look_next hn (d := d.toNat) (by omega)
            have : (128 : Nat) ^ (k + 1) ≤ 128 ^ 9 := Nat.pow_le_pow_right (by decide) (by omega)
            have e9 : (128 : Nat) ^ 9 = 9223372036854775808 := by decide
            omega
          · have : k = 9 := by omega
            subst this
            have h6 : d.toNat ≤ 1 := by
              rcases Int.lt_or_le 1 d with h | h
              · exact absurd ⟨rfl, h⟩ h1
              · omega
            have e9 : (128 : Nat) ^ 9 = 9223372036854775808 := by decide
            rw [e9] at hn ⊢
            omega
theorem look_cases {bs : List Int} (hb : Bytes bs) : ((look 0 0 bs).e = 0 ∧ 0 < (look 0 0 bs).long ∧ (look 0 0 bs).long ≤ bs.length ∧ (look 0 0 bs).long ≤ 10 ∧ (look 0 0 bs).n < 18446744073709551616) ∨ (((look 0 0 bs).e = 6 ∨ (look 0 0 bs).e = 7) ∧ (look 0 0 bs).n = 0 ∧ (look 0 0 bs).long = 0) := by
  have := look_ends bs 0 0 (by omega) (by simp) hb
  simpa using this
/-- The number that stands next, if it is one from 0 on. -/
def seen (bs : List Int) : Seen := if (look 0 0 bs).e = 0 ∧ 9223372036854775808 ≤ (look 0 0 bs).n then ⟨0, 0, 7⟩ else look 0 0 bs
theorem seen_cases {bs : List Int} (hb : Bytes bs) : ((seen bs).e = 0 ∧ 0 < (seen bs).long ∧ (seen bs).long ≤ bs.length ∧ (seen bs).long ≤ 10 ∧ (seen bs).n < 9223372036854775808) ∨ (((seen bs).e = 6 ∨ (seen bs).e = 7) ∧ (seen bs).n = 0 ∧ (seen bs).long = 0) := by
  unfold seen
  by_cases h : (look 0 0 bs).e = 0 ∧ 9223372036854775808 ≤ (look 0 0 bs).n
  · rw [if_pos h]; exact .inr ⟨.inr rfl, rfl, rfl⟩
  · rw [if_neg h]
    rcases look_cases hb with h1 | h1
    · refine .inl ⟨h1.1, h1.2.1, h1.2.2.1, h1.2.2.2.1, ?_⟩
      rcases Nat.lt_or_ge (look 0 0 bs).n 9223372036854775808 with h2 | h2
      · exact h2
      · exact absurd ⟨h1.1, h2⟩ h
    · exact .inr h1
structure Got (α : Type) where
  v : α
  left : List Int
  e : Int
def getNum (bs : List Int) : Got Int := if (seen bs).e = 0 then ⟨(seen bs).n, bs.drop (seen bs).long, 0⟩ else ⟨0, bs, (seen bs).e⟩
def getInt (bs : List Int) : Got Int := if (look 0 0 bs).e = 0 then ⟨if (look 0 0 bs).n % 2 = 1 then -((look 0 0 bs).n / 2 : Nat) - 1 else ((look 0 0 bs).n / 2 : Nat), bs.drop (look 0 0 bs).long, 0⟩ else ⟨0, bs, (look 0 0 bs).e⟩
def getBytes (bs : List Int) : Got (List Int) :=
  if (seen bs).e = 0 then (if 4096 < (seen bs).n then ⟨[], bs, 2⟩ else if bs.length - (seen bs).long < (seen bs).n then ⟨[], bs, 6⟩ else ⟨(bs.take ((seen bs).long + (seen bs).n)).drop (seen bs).long, bs.drop ((seen bs).long + (seen bs).n), 0⟩) else ⟨[], bs, (seen bs).e⟩

/-- Bytes that are being got, at block g; M: where the bytes themselves lie. -/
def Inn (w : World) (g : Nat) (M : Nat → Prop) (bs : List Int) : Prop :=
  Bytes bs ∧ ∃ A cap, w.heap[g]? = some (.cells #[.slice A bs.length cap] 87 (0, 0)) ∧ bs.length ≤ cap ∧ cap ≤ 9223372036854775807 ∧ Kd.F (Kd.int .u8) w M A bs.length bs ∧ ¬ M g
theorem Inn.open_ {w : World} {g : Nat} {M : Nat → Prop} {bs : List Int} (h : Inn w g M bs) : ∃ A cap, w.cell? ⟨g, 0, none⟩ = some (.slice A bs.length cap) ∧ w.frozen? ⟨g, 0, none⟩ = false ∧ bs.length ≤ cap ∧ cap ≤ 9223372036854775807 ∧ Kd.C (Kd.int .u8) w A bs.length bs ∧ g < w.heap.size := by
  obtain ⟨_, A, cap, h1, h2, h3, h4, _⟩ := h
  exact ⟨A, cap, by rw [cell_of_row _ _ _ _ _ _ h1]; rfl, by simp [World.frozen?, h1], h2, h3, Kd.F_now h4, (Array.getElem?_eq_some_iff.1 h1).1⟩

set_option maxRecDepth 100000 in
set_option maxHeartbeats 8000000 in
theorem innum_any (g : Nat) (M : Nat → Prop) (bs : List Int) (w : World) (h : Inn w g M bs) :
    Calls Try.prog 59 #[.pointer (some ⟨g, 0, none⟩)] w fun e w' => e = .returned (.tuple #[.int .i64 ((seen bs).n : Int), .int .i64 ((seen bs).long : Int), .int .i64 (seen bs).e]) ∧ w' = w := by
  obtain ⟨A, cap, h1, h2, h3, h4, h5, h6⟩ := h.open_
  have hl := look_any g A cap bs w h1 h5 h.1
  have hc := look_cases h.1
  unfold seen
  generalize look 0 0 bs = r at hl hc ⊢
  have HC := Aside0.mk hc
  obtain ⟨n, long, e⟩ := r
  simp only at *
  obtain ⟨z, hz⟩ : ∃ z : Int, z = (n : Int) := ⟨_, rfl⟩
  have hzn : z < 18446744073709551616 := by omega
  rw [← hz] at hl
  by_cases he : e = 0
  · subst he
    by_cases hn : 9223372036854775808 ≤ n
    · rw [if_pos ⟨rfl, hn⟩]
      have hn' : (9223372036854775808 : Int) ≤ z := by omega
      clear h hc hz h1 h2 h3 h4 h5 hn
      go_enter Try.func59, Try.ntmps59
      go_wp2_with (go_at_call 64; refine hl.mono ?_; rintro e w1 ⟨rfl, rfl⟩)
      go_ret3
      exact ⟨rfl, rfl⟩
    · rw [if_neg (fun h => hn h.2)]
      have hn' : z < 9223372036854775808 := by omega
      have hn0 : 0 ≤ z := by omega
      rw [← hz]
      clear h hc hz h1 h2 h3 h4 h5 hn
      go_enter Try.func59, Try.ntmps59
      go_wp2_with (go_at_call 64; refine hl.mono ?_; rintro e w1 ⟨rfl, rfl⟩)
      go_ret3
      exact ⟨rfl, rfl⟩
  · rw [if_neg (fun h => he h.1)]
    have heb : (e == 0) = false := by simp [he]
    rcases hc with hc | ⟨_, rfl, rfl⟩
    · exact absurd hc.1 he
    · have hz0 : z = 0 := by rw [hz]; rfl
      subst hz0
      clear h h1 h2 h3 h4 h5 he hz
      go_enter Try.func59, Try.ntmps59
      go_wp2_with (go_at_call 64; refine hl.mono ?_; rintro e w1 ⟨rfl, rfl⟩)
      go_ret3
      exact ⟨rfl, rfl⟩
theorem Inn.kept {w W : World} {g : Nat} {M S : Nat → Prop} {bs : List Int} (h : Inn w g M bs) (hw : Went S w W) (hg : ¬ S g) (hM : ∀ k, M k → ¬ S k) : Inn W g M bs := by
  obtain ⟨hb, A, cap, h2, h3, h4, h5, h6⟩ := h
  exact ⟨hb, A, cap, hw.block h2 hg, h3, h4, Kd.F_step h5 (fun k hk hl => hw.kept.2 k hl (hM k hk)), h6⟩
theorem Inn.below {w W : World} {g : Nat} {M : Nat → Prop} {bs : List Int} (h : Inn w g M bs) (hb : Below w.heap.size w W) : Inn W g M bs := h.kept (Went.of_below hb (fun _ => False)) (fun e => e) (fun _ _ e => e)
/-- What a reslice, stored back, leaves. -/
theorem Inn.cut {w : World} {g n cap : Nat} {M : Nat → Prop} {bs : List Int} {A : Option Addr} (h : Inn w g M bs) (h1 : w.cell? ⟨g, 0, none⟩ = some (.slice A bs.length cap)) (hn : n ≤ bs.length) :
    Inn (w.setCell ⟨g, 0, none⟩ (.slice (if cap = n then A else A.map (·.add n)) (bs.length - n) (cap - n))) g M (bs.drop n) := by
  obtain ⟨hb, A', cap', h2, h3, h4, h5, h6⟩ := h
  have e := h1
  rw [cell_of_row _ _ _ _ _ _ h2] at e
  simp at e
  obtain ⟨rfl, rfl⟩ := e
  have hs : Kept w (w.setCell ⟨g, 0, none⟩ (.slice (if cap' = n then A' else A'.map (·.add n)) (bs.length - n) (cap' - n))) (fun k => k = g) := (Went.setq (S := fun k => k = g) (Went.refl _ w) (.inl rfl) _).kept
  refine ⟨fun x hx => hb x (List.mem_of_mem_drop hx), if cap' = n then A' else A'.map (·.add n), cap' - n, ?_, by rw [List.length_drop]; omega, by omega, ?_, h6⟩
  · rw [heap_setCell h2, List.length_drop]
    rfl
  · have h7 := Kd.F_cut h5 hn h3
    have e2 : (Kd.int .u8).sz = 1 := rfl
    rw [e2, Nat.mul_one] at h7
    exact Kd.F_step h7 (fun k hk hl => hs.2 k hl (fun e => h6 (e ▸ hk)))
theorem Went.cut {w : World} {g : Nat} (v : Value) : Went (fun k => k = g) w (w.setCell ⟨g, 0, none⟩ v) := Went.setq (S := fun k => k = g) (Went.refl _ w) (.inl rfl) _

set_option maxRecDepth 100000 in
set_option maxHeartbeats 8000000 in
theorem getnum_any (g : Nat) (M : Nat → Prop) (bs : List Int) (w : World) (h : Inn w g M bs) :
    Calls Try.prog 47 #[.pointer (some ⟨g, 0, none⟩)] w fun e w' => e = .returned (.tuple #[.int .i64 (getNum bs).v, .int .i64 (getNum bs).e]) ∧ Inn w' g M (getNum bs).left ∧ Went (fun k => k = g) w w' := by
  obtain ⟨A, cap, h1, h2, h3, h4, h5, h6⟩ := h.open_
  have hl := innum_any g M bs w h
  have hc := seen_cases h.1
  have hcut := fun n hn => Inn.cut (n := n) h h1 hn
  have HI := Aside0.mk (And.intro h hcut)
  unfold getNum
  generalize seen bs = r at hl hc ⊢
  have HC := Aside0.mk hc
  obtain ⟨n, long, e⟩ := r
  simp only at *
  obtain ⟨z, hz⟩ : ∃ z : Int, z = (n : Int) := ⟨_, rfl⟩
  have hzn : z < 18446744073709551616 := by omega
  rw [← hz] at hl
  by_cases he : e = 0
  · subst he
    rw [if_pos rfl]
    have hlong : long ≤ bs.length := by rcases hc with hc | hc <;> omega
    have HL := Aside0.mk hlong
    clear h hcut hc h5
    go_enter Try.func47, Try.ntmps47
    go_wp2_with (go_at_call 59; refine hl.mono ?_; rintro e w1 ⟨rfl, rfl⟩)
    all_goals go_ret2
    · have h7 := HI.out.2 long HL.out
      rw [if_pos (by assumption), show cap - long = 0 by omega] at h7
      exact ⟨rfl, h7, Went.cut _⟩
    · have h7 := HI.out.2 long HL.out
      rw [if_neg (by assumption)] at h7
      exact ⟨rfl, h7, Went.cut _⟩
  · rw [if_neg he]
    have heb : (e == 0) = false := by simp [he]
    rcases hc with hc | ⟨_, rfl, rfl⟩
    · exact absurd hc.1 he
    · have hz0 : z = 0 := by rw [hz]; rfl
      subst hz0
      clear h hcut h1 h2 h3 h4 h5 he hz
      go_enter Try.func47, Try.ntmps47
      go_wp2_with (go_at_call 59; refine hl.mono ?_; rintro e w1 ⟨rfl, rfl⟩)
      go_ret2
      exact ⟨rfl, HI.out.1, Went.refl _ _⟩

set_option maxRecDepth 100000 in
set_option maxHeartbeats 8000000 in
theorem getint_any (g : Nat) (M : Nat → Prop) (bs : List Int) (w : World) (h : Inn w g M bs) :
    Calls Try.prog 60 #[.pointer (some ⟨g, 0, none⟩)] w fun e w' => e = .returned (.tuple #[.int .i64 (getInt bs).v, .int .i64 (getInt bs).e]) ∧ Inn w' g M (getInt bs).left ∧ Went (fun k => k = g) w w' := by
  obtain ⟨A, cap, h1, h2, h3, h4, h5, h6⟩ := h.open_
  have hl := look_any g A cap bs w h1 h5 h.1
  have hc := look_cases h.1
  have hcut := fun n hn => Inn.cut (n := n) h h1 hn
  have HI := Aside0.mk (And.intro h hcut)
  unfold getInt
  generalize look 0 0 bs = r at hl hc ⊢
  have HC := Aside0.mk hc
  obtain ⟨n, long, e⟩ := r
  simp only at *
  obtain ⟨z, hz⟩ : ∃ z : Int, z = (n : Int) := ⟨_, rfl⟩
  have hzn : z < 18446744073709551616 := by omega
  have hz0 : 0 ≤ z := by omega
  rw [← hz] at hl
  by_cases he : e = 0
  · subst he
    rw [if_pos rfl]
    have hlong : long ≤ bs.length := by rcases hc with hc | hc <;> omega
    have HL := Aside0.mk hlong
    have HZ := Aside0.mk hz
    by_cases hp : n % 2 = 1
    · have hp2 : z % 2 = 1 := by omega
      rw [if_pos hp]
      clear h hcut hc h5 hz hp
      go_enter Try.func60, Try.ntmps60
      go_wp2_with (go_at_call 64; refine hl.mono ?_; rintro e w1 ⟨rfl, rfl⟩)
      all_goals go_ret2
      · have h7 := HI.out.2 long HL.out
        have ez := HZ.out
        rw [if_pos (by assumption), show cap - long = 0 by omega] at h7
        refine ⟨?_, h7, Went.cut _⟩
        have ez := HZ.out
        refine congrArg (fun x : Int => Ending.returned (Value.tuple #[.int .i64 x, .int .i64 0])) ?_
        omega
      · have h7 := HI.out.2 long HL.out
        rw [if_neg (by assumption)] at h7
        refine ⟨?_, h7, Went.cut _⟩
        have ez := HZ.out
        refine congrArg (fun x : Int => Ending.returned (Value.tuple #[.int .i64 x, .int .i64 0])) ?_
        omega
    · have hp2 : z % 2 = 0 := by omega
      rw [if_neg hp]
      clear h hcut hc h5 hz hp
      go_enter Try.func60, Try.ntmps60
      go_wp2_with (go_at_call 64; refine hl.mono ?_; rintro e w1 ⟨rfl, rfl⟩)
      all_goals go_ret2
      · have h7 := HI.out.2 long HL.out
        have ez := HZ.out
        rw [if_pos (by assumption), show cap - long = 0 by omega] at h7
        refine ⟨?_, h7, Went.cut _⟩
        have ez := HZ.out
        refine congrArg (fun x : Int => Ending.returned (Value.tuple #[.int .i64 x, .int .i64 0])) ?_
        omega
      · have h7 := HI.out.2 long HL.out
        rw [if_neg (by assumption)] at h7
        refine ⟨?_, h7, Went.cut _⟩
        have ez := HZ.out
        refine congrArg (fun x : Int => Ending.returned (Value.tuple #[.int .i64 x, .int .i64 0])) ?_
        omega
  · rw [if_neg he]
    have heb : (e == 0) = false := by simp [he]
    rcases hc with hc | ⟨_, rfl, rfl⟩
    · exact absurd hc.1 he
    · have hz0 : z = 0 := by rw [hz]; rfl
      subst hz0
      clear h hcut h1 h2 h3 h4 h5 he hz
      go_enter Try.func60, Try.ntmps60
      go_wp2_with (go_at_call 64; refine hl.mono ?_; rintro e w1 ⟨rfl, rfl⟩)
      go_ret2
      exact ⟨rfl, HI.out.1, Went.refl _ _⟩

set_option maxRecDepth 100000 in
set_option maxHeartbeats 8000000 in
theorem newin_any (A : Option Addr) (c : Nat) (b : List Int) (w : World) (hC : Kd.C (Kd.int .u8) w A b.length b) (hc : b.length ≤ c) (hb : Bytes b) (hl : b.length ≤ 140737488351232) :
    Calls Try.prog 22 #[.slice A b.length c] w fun e w' => ∃ g, e = .returned (.pointer (some ⟨g, 0, none⟩)) ∧ Inn w' g (fun k => w.heap.size ≤ k ∧ k < g) b ∧ w.heap.size ≤ g ∧ Below w.heap.size w w' := by
  have hcl := clone_any5 A c b w hC hc (by omega)
  have HX := Aside0.mk (And.intro hb hl)
  clear hb hl hC
  go_enter Try.func22, Try.ntmps22
  go_wp2_with (go_at_call 46; refine hcl.mono ?_; rintro e w1 ⟨v, rfl, hv, hbl⟩; obtain ⟨A1, c1, rfl⟩ := own_slice (Kd.own_of_R hv); have HV := Aside0.mk (And.intro hv hbl); clear hv hbl)
  go_ret
  obtain ⟨hv, hbl⟩ := HV.out
  obtain ⟨hb, hl⟩ := HX.out
  have hcap : b.length ≤ c1 ∧ c1 ≤ 9223372036854775807 := by
    refine ⟨(Kd.R_reads' hv).2.1, ?_⟩
    rcases (Kd.own_of_R hv).2 with ⟨e, _⟩ | ⟨g, cap, cur, e, _, _, _, h, _⟩
    · injection e with _ _ e
      omega
    · injection e with _ _ e
      unfold maxLen at h
      omega
  have hF : Kd.F (Kd.int .u8) w1 (fun k => w.heap.size ≤ k ∧ k < w1.heap.size) A1 b.length b := Kd.F_mono (Kd.R_F (Kd.R_bound hv)) (fun k hk => ⟨hk.2.1, hk.2.2.1⟩)
  refine ⟨w1.heap.size, rfl, ⟨hb, A1, c1, World.alloc_heap_new _ _, hcap.1, hcap.2, ?_, fun h => by omega⟩, hbl.size, hbl.alloc hbl.size _⟩
  exact Kd.F_step hF (fun k hk hl => Below.heap_alloc _ _ _ hl)

end Go.Proofs.Ytgdelfckhcgnhaa.Code

namespace Go.Proofs.Ytgdelfckhcgnhaa.Code
set_option linter.unusedVariables false

theorem mul_pow_step (m n k : Nat) : m + n % 128 * 128 ^ k + n / 128 * 128 ^ (k + 1) = m + n * 128 ^ k := by
  have h := Nat.div_add_mod n 128
  have : n * 128 ^ k = (128 * (n / 128) + n % 128) * 128 ^ k := by rw [h]
  rw [this, Nat.add_mul, Nat.pow_succ, Nat.mul_comm 128 (n / 128), Nat.mul_assoc, Nat.mul_comm (128 ^ k) 128]
  omega
theorem pow_nine : (128 : Nat) ^ 9 = 9223372036854775808 := by decide
/-- What was put is seen. -/
theorem look_digs (rest : List Int) : ∀ (n k m : Nat), k ≤ 9 → n * 128 ^ k < 18446744073709551616 → (0 < k → 0 < n) → look k m (digs n ++ rest) = ⟨m + n * 128 ^ k, k + (digs n).length, 0⟩ := by
  intro n
  induction n using Nat.strongRecOn with
  | _ n ih =>
    intro k m hk hb h0
    by_cases h : n < 128
    · rw [digs_small h]
      show look k m ((n : Int) :: rest) = _
      rw [look, if_neg, if_neg (by omega), if_neg (by omega), Int.toNat_natCast]
      · rfl
      · rintro ⟨rfl, h1⟩
        rw [pow_nine] at hb
        omega
    · rw [digs_big h]
      have hk8 : k ≤ 8 := by
        rcases Nat.lt_or_ge k 9 with h9 | h9
        · omega
        · have : k = 9 := by omega
          subst this
          rw [pow_nine] at hb
          omega
      show look k m (((n % 128 + 128 : Nat) : Int) :: (digs (n / 128) ++ rest)) = _
      have e1 : (((n % 128 + 128 : Nat) : Int) - 128).toNat = n % 128 := by omega
      have e2 := mul_pow_step 0 n k
      have e3 : n / 128 * 128 ^ (k + 1) < 18446744073709551616 := by
        refine Nat.lt_of_le_of_lt ?_ hb
        rw [Nat.zero_add, Nat.zero_add] at e2
        exact e2 ▸ Nat.le_add_left _ _
      have e4 := ih (n / 128) (by omega) (k + 1) (m + n % 128 * 128 ^ k) (by omega) e3 (fun _ => by omega)
      rw [look, if_neg (fun h => by have := h.1; omega), if_pos (by omega), e1, e4, mul_pow_step]
      rw [List.length_cons, show k + 1 + (digs (n / 128)).length = k + ((digs (n / 128)).length + 1) by omega]
/-- What is seen would be put so. -/
theorem digs_look : ∀ (bs : List Int) (k m : Nat), Bytes bs → (look k m bs).e = 0 → ∃ n, (look k m bs).n = m + n * 128 ^ k ∧ k < (look k m bs).long ∧ (look k m bs).long ≤ k + bs.length ∧ digs n = bs.take ((look k m bs).long - k) ∧ (0 < k → 0 < n)
  | [], k, m, hb, he => by simp [look] at he
  | d :: r, k, m, hb, he => by
    have hd := hb d (by simp)
    rw [look] at he ⊢
    by_cases h1 : k = 9 ∧ 1 < d
    · rw [if_pos h1] at he; cases he
    · rw [if_neg h1] at he ⊢
      by_cases h2 : 128 ≤ d
      · rw [if_pos h2] at he ⊢
        obtain ⟨n, e1, e2, e3, e4, e5⟩ := digs_look r (k + 1) _ (fun x hx => hb x (by simp [hx])) he
        have hn := e5 (by omega)
        have em : ((d - 128).toNat + 128 * n) % 128 = (d - 128).toNat := by omega
        have ed : ((d - 128).toNat + 128 * n) / 128 = n := by omega
        refine ⟨(d - 128).toNat + 128 * n, ?_, by omega, by rw [List.length_cons]; omega, ?_, fun _ => by omega⟩
        · rw [e1]
          have := mul_pow_step m ((d - 128).toNat + 128 * n) k
          rw [em, ed] at this
          exact this
        · rw [digs_big (by omega), em, ed, e4]
          obtain ⟨L, hL⟩ : ∃ L, (look (k + 1) (m + (d - 128).toNat * 128 ^ k) r).long = L := ⟨_, rfl⟩
          rw [hL] at e2 ⊢
          rw [show L - k = (L - (k + 1)) + 1 by omega, List.take_succ_cons]
          congr 1
          omega
      · rw [if_neg h2] at he ⊢
        by_cases h3 : d = 0 ∧ 0 < k
        · rw [if_pos h3] at he; cases he
        · rw [if_neg h3]
          refine ⟨d.toNat, rfl, by simp, by simp, ?_, fun hk => ?_⟩
          · rw [digs_small (by omega)]
            simp only [Nat.add_sub_cancel_left]
            rw [List.take_succ_cons, List.take_zero, Int.toNat_of_nonneg hd.1]
          · rcases Int.lt_or_le 0 d with h | h
            · omega
            · exact absurd ⟨by omega, hk⟩ h3
theorem look_put {n : Nat} (hn : n < 18446744073709551616) (rest : List Int) : look 0 0 (digs n ++ rest) = ⟨n, (digs n).length, 0⟩ := by
  have := look_digs rest n 0 0 (by omega) (by simpa using hn) (fun h => by omega)
  simpa using this
theorem put_look {bs : List Int} (hb : Bytes bs) (he : (look 0 0 bs).e = 0) : digs (look 0 0 bs).n = bs.take (look 0 0 bs).long := by
  obtain ⟨n, e1, _, _, e4, _⟩ := digs_look bs 0 0 hb he
  simp only [Nat.zero_add, Nat.pow_zero, Nat.mul_one, Nat.sub_zero] at e1 e4
  rw [e1, e4]
theorem seen_put {n : Nat} (hn : n < 9223372036854775808) (rest : List Int) : seen (digs n ++ rest) = ⟨n, (digs n).length, 0⟩ := by
  unfold seen
  rw [look_put (by omega), if_neg (by simp; omega)]
theorem digs_bytes : ∀ n, Bytes (digs n) := by
  intro n
  induction n using Nat.strongRecOn with
  | _ n ih =>
    by_cases h : n < 128
    · rw [digs_small h]
      intro x hx
      simp only [List.mem_singleton] at hx
      omega
    · rw [digs_big h]
      intro x hx
      rcases List.mem_cons.1 hx with rfl | hx
      · omega
      · exact ih _ (by omega) x hx
theorem Bytes.append {a b : List Int} (ha : Bytes a) (hb : Bytes b) : Bytes (a ++ b) := fun x hx => by
  rcases List.mem_append.1 hx with h | h
  · exact ha x h
  · exact hb x h

/-! #### What is put is got -/
theorem getNum_put {n : Int} (h0 : 0 ≤ n) (h1 : n < 9223372036854775808) (rest : List Int) : getNum (digs n.toNat ++ rest) = ⟨n, rest, 0⟩ := by
  unfold getNum
  rw [seen_put (by omega), if_pos rfl]
  simp only [List.drop_left, Int.toNat_of_nonneg h0]
theorem getInt_put {n : Int} (h0 : -9223372036854775808 ≤ n) (h1 : n < 9223372036854775808) (rest : List Int) : getInt (digs (zig n) ++ rest) = ⟨n, rest, 0⟩ := by
  have hz : zig n < 18446744073709551616 := by unfold zig; split <;> omega
  unfold getInt
  rw [look_put hz, if_pos rfl]
  simp only [List.drop_left]
  congr 1
  unfold zig
  split <;> split <;> omega
end Go.Proofs.Ytgdelfckhcgnhaa.Code

namespace Go.Proofs.Ytgdelfckhcgnhaa.Code
open Go.RowKit Go.Proofs.Ytgdelfckhcgnhaa.Pa Go.Proofs.YtgdelfckhcgnhaaW.PrintWords Go.Proofs.YtgdelfckhcgnhaaW.PrintLast Go.Proofs.YtgdelfckhcgnhaaW.PrintMore
set_option linter.unusedVariables false
variable {ob : Bool}

theorem R_zero {w : World} {base : Nat} {ok : Nat → Prop} {v : Value} {l : List Int} (h : Kd.R (Kd.int .u8) 5 w base ok v l) : Kd.R (Kd.int .u8) 5 w 0 (fun k => base ≤ k ∧ k < w.heap.size) v l := by
  have hb := Kd.R_bound h
  refine Kd.R_of_own ?_ (fun k hk => ⟨(hb.1 k hk).2.1, (hb.1 k hk).2.2.1⟩)
  obtain ⟨h1, h2⟩ := Kd.own_of_R h
  refine ⟨h1, ?_⟩
  rcases h2 with h2 | ⟨g, cap, cur, e, h3, h4⟩
  · exact .inl h2
  · exact .inr ⟨g, cap, cur, e, Nat.zero_le _, h4⟩
/-- What stays true while other blocks are turned. -/
def Moves (L : World → (Nat → Prop) → Prop) : Prop := ∀ {w W : World} {F S : Nat → Prop}, L w F → Went S w W → (∀ k, F k → ¬ S k) → L W F
inductive Thing where
  | gen (L : World → (Nat → Prop) → Prop) (hk : Moves L)
  | out (ob : Bool) (q : Nat) (bs : List Int)
  | inn (g : Nat) (bs : List Int)
  | blk (b : Nat) (o : Obj)
  | row (v : Value) (l : List Int)
def Lies (W : World) : Thing → (Nat → Prop) → Prop
  | .out ob q bs, F => Out ob W q F bs
  | .inn g bs, F => ∃ M, Inn W g M bs ∧ F g ∧ ∀ k, M k → F k
  | .blk b o, F => W.heap[b]? = some o ∧ ∀ k, F k ↔ k = b
  | .row v l, F => Kd.R (Kd.int .u8) 5 W 0 F v l
  | .gen L _, F => L W F
theorem Lies.kept {w W : World} {t : Thing} {F S : Nat → Prop} (h : Lies w t F) (hw : Went S w W) (hn : ∀ k, F k → ¬ S k) : Lies W t F := by
  cases t with
  | out ob q s => exact Out.kept h hw hn
  | inn g bs =>
    obtain ⟨M, h1, h2, h3⟩ := h
    exact ⟨M, h1.kept hw (hn g h2) (fun k hk => hn k (h3 k hk)), h2, h3⟩
  | blk b o => exact ⟨hw.block h.1 (hn b ((h.2 b).2 rfl)), h.2⟩
  | row v l => exact Kd.R_kept h hw.kept hn
  | gen L hk => exact hk h hw hn
def All (W : World) (base : Nat) : List Thing → (Nat → Prop) → Prop
  | [], _ => True
  | t :: r, U => ∃ F, Lies W t F ∧ (∀ k, F k → base ≤ k ∧ k < W.heap.size ∧ ¬ U k) ∧ All W base r (fun k => U k ∨ F k)
theorem All.mono {W : World} {base : Nat} : ∀ {T : List Thing} {U U' : Nat → Prop}, All W base T U → (∀ k, k < W.heap.size → U' k → U k) → All W base T U'
  | [], _, _, _, _ => trivial
  | t :: r, U, U', ⟨F, h1, h2, h3⟩, hu => ⟨F, h1, fun k hk => ⟨(h2 k hk).1, (h2 k hk).2.1, fun h => (h2 k hk).2.2 (hu k (h2 k hk).2.1 h)⟩, h3.mono (fun k hl h => h.imp (hu k hl) id)⟩
theorem All.kept {w W : World} {base : Nat} {S : Nat → Prop} : ∀ {T : List Thing} {U : Nat → Prop}, All w base T U → Went S w W → (∀ k, k < w.heap.size → S k → U k) → All W base T U
  | [], _, _, _, _ => trivial
  | t :: r, U, ⟨F, h1, h2, h3⟩, hw, hs =>
    ⟨F, h1.kept hw (fun k hk hS => (h2 k hk).2.2 (hs k (h2 k hk).2.1 hS)), fun k hk => ⟨(h2 k hk).1, Nat.lt_of_lt_of_le (h2 k hk).2.1 hw.size, (h2 k hk).2.2⟩, h3.kept hw (fun k hl hS => .inl (hs k hl hS))⟩
theorem All.swap {W : World} {base : Nat} {a b : Thing} {r : List Thing} {U : Nat → Prop} (h : All W base (a :: b :: r) U) : All W base (b :: a :: r) U := by
  obtain ⟨F, h1, h2, G, k1, k2, k3⟩ := h
  refine ⟨G, k1, fun k hk => ⟨(k2 k hk).1, (k2 k hk).2.1, fun h => (k2 k hk).2.2 (.inl h)⟩, F, h1, fun k hk => ⟨(h2 k hk).1, (h2 k hk).2.1, ?_⟩, k3.mono (fun k _ h => ?_)⟩
  · rintro (h | h)
    · exact (h2 k hk).2.2 h
    · exact (k2 k h).2.2 (.inr hk)
  · rcases h with (h | h) | h
    · exact .inl (.inl h)
    · exact .inr h
    · exact .inl (.inr h)
theorem All.perm {W : World} {base : Nat} {T T' : List Thing} (p : T.Perm T') : ∀ {U : Nat → Prop}, All W base T U → All W base T' U := by
  induction p with
  | nil => exact fun h => h
  | cons x _ ih => exact fun ⟨F, h1, h2, h3⟩ => ⟨F, h1, h2, ih h3⟩
  | swap x y l => exact fun h => h.swap
  | trans _ _ ih1 ih2 => exact fun h => ih2 (ih1 h)

/-- What is there, apart from each other, of what a law has made from w0 on. -/
structure Sit (w0 W : World) (T : List Thing) : Prop where
  below : Below w0.heap.size w0 W
  all : All W w0.heap.size T (fun _ => False)
theorem Sit.refl (w : World) : Sit w w [] := ⟨Below.refl _ _, trivial⟩
theorem Sit.perm {w0 W : World} {T T' : List Thing} (h : Sit w0 W T) (p : T.Perm T') : Sit w0 W T' := ⟨h.below, h.all.perm p⟩
theorem Sit.swap {w0 W : World} {a b : Thing} {T : List Thing} (h : Sit w0 W (a :: b :: T)) : Sit w0 W (b :: a :: T) := ⟨h.below, h.all.swap⟩
theorem Sit.rot {w0 W : World} {a b c : Thing} {T : List Thing} (h : Sit w0 W (a :: b :: c :: T)) : Sit w0 W (c :: a :: b :: T) := h.perm (by
  have h1 : (a :: b :: c :: T).Perm (a :: c :: b :: T) := (List.Perm.swap c b T).cons a
  exact h1.trans (List.Perm.swap c a _))
theorem Sit.rot4 {w0 W : World} {a b c d : Thing} {T : List Thing} (h : Sit w0 W (a :: b :: c :: d :: T)) : Sit w0 W (d :: a :: b :: c :: T) := h.perm (by
  have h1 : (b :: c :: d :: T).Perm (d :: b :: c :: T) := ((List.Perm.swap d c T).cons b).trans (List.Perm.swap d b _)
  exact (h1.cons a).trans (List.Perm.swap d a _))
theorem Sit.perm3 {w0 W : World} {a b c : Thing} {T : List Thing} (h : Sit w0 W (a :: b :: c :: T)) : Sit w0 W (a :: b :: c :: T) := h
theorem Sit.tail {w0 W : World} {a : Thing} {T : List Thing} (h : Sit w0 W (a :: T)) : Sit w0 W T := by
  obtain ⟨hb, F, _, _, h3⟩ := h
  exact ⟨hb, h3.mono (fun _ _ h => h.elim)⟩
theorem Sit.behind {w0 W W' : World} {T : List Thing} (h : Sit w0 W T) (hb : Below W.heap.size W W') : Sit w0 W' T :=
  ⟨below_then h.below h.below.size hb, h.all.kept (Went.of_below hb (fun _ => False)) (fun _ _ h => h)⟩
theorem Sit.skip {w0 W : World} {T : List Thing} (h : Sit w0 W T) (o : Obj) : Sit w0 (W.alloc o) T := h.behind ((Below.refl _ _).alloc (Nat.le_refl _) _)
theorem Sit.drew {w0 W : World} {T : List Thing} (h : Sit w0 W T) : Sit w0 W.drew T := h.behind ((Below.refl _ _).drew)
theorem Sit.drewN {w0 W : World} {T : List Thing} (h : Sit w0 W T) (n : Nat) : Sit w0 (W.drewN n) T := h.behind (pw_below_drewN (Below.refl _ _) n)
/-- A new block. -/
theorem Sit.alloc {w0 W : World} {T : List Thing} (h : Sit w0 W T) (cs : Array Value) (e : TypeId) : Sit w0 (W.alloc (.cells cs e)) (.blk W.heap.size (.cells cs e (0, 0)) :: T) := by
  refine ⟨(h.skip _).below, fun k => k = W.heap.size, ⟨heap_alloc_new W _, fun _ => Iff.rfl⟩, fun k hk => ⟨by subst hk; exact h.below.size, by subst hk; simp, fun h => h⟩, ?_⟩
  refine All.mono ((All.mono (U' := fun k => k = W.heap.size) h.all (fun k hl hk => by omega)).kept (S := fun _ => False) (Went.of_below ((Below.refl _ _).alloc (Nat.le_refl _) _) _) (fun _ _ h => h.elim)) (fun k _ h => ?_)
  rcases h with h | h
  · exact h.elim
  · exact h
theorem Sit.set {w0 W : World} {T : List Thing} {b : Nat} {cs : Array Value} {e : TypeId} (h : Sit w0 W (.blk b (.cells cs e (0, 0)) :: T)) (o : Nat) (u : Value) : Sit w0 (W.setCell ⟨b, o, none⟩ u) (.blk b (.cells (cs.setIfInBounds o u) e (0, 0)) :: T) := by
  obtain ⟨hb, F, ⟨h1, hF⟩, h2, h3⟩ := h
  have hs : Went (fun k => k = b) W (W.setCell ⟨b, o, none⟩ u) := Went.setq (S := fun k => k = b) (Went.refl _ W) (.inl rfl) _
  have hbk := h2 b ((hF b).2 rfl)
  refine ⟨hb.setCell (p := ⟨b, o, none⟩) hbk.1 u, F, ⟨heap_setCell h1 u, hF⟩, fun k hk => ⟨(h2 k hk).1, Nat.lt_of_lt_of_le (h2 k hk).2.1 hs.size, (h2 k hk).2.2⟩, h3.kept hs (fun k _ hk => .inr ((hF k).2 hk))⟩
theorem Sit.blk {w0 W : World} {T : List Thing} {b : Nat} {o : Obj} (h : Sit w0 W (.blk b o :: T)) : W.heap[b]? = some o ∧ b < W.heap.size ∧ w0.heap.size ≤ b := by
  obtain ⟨hb, F, ⟨h1, hF⟩, h2, h3⟩ := h
  exact ⟨h1, (h2 b ((hF b).2 rfl)).2.1, (h2 b ((hF b).2 rfl)).1⟩
/-- A new thing. -/
theorem Sit.add {w0 W W' : World} {T : List Thing} {t : Thing} {F : Nat → Prop} (h : Sit w0 W T) (hb : Below W.heap.size W W') (ht : Lies W' t F) (hF : ∀ k, F k → W.heap.size ≤ k ∧ k < W'.heap.size) : Sit w0 W' (t :: T) := by
  have h' := h.behind hb
  refine ⟨h'.below, F, ht, fun k hk => ⟨Nat.le_trans h.below.size (hF k hk).1, (hF k hk).2, fun h => h⟩, ?_⟩
  exact ((h.all.mono (U' := fun k => F k) (fun k hl hk => by have := (hF k hk).1; omega)).kept (S := fun _ => False) (Went.of_below hb _) (fun _ _ h => h.elim)).mono (fun k _ h => by
    rcases h with h | h
    · exact h.elim
    · exact h)
/-- A thing turned. -/
theorem Sit.turn {w0 W W' : World} {T : List Thing} {t t' : Thing} {F F' : Nat → Prop} (hb : Below w0.heap.size w0 W) (h2 : ∀ k, F k → w0.heap.size ≤ k ∧ k < W.heap.size ∧ ¬ False) (h3 : All W w0.heap.size T (fun k => False ∨ F k)) (k1 : Lies W' t' F') (k2 : ∀ k, F' k → (F k ∨ W.heap.size ≤ k) ∧ k < W'.heap.size) (k3 : Went F W W') : Sit w0 W' (t' :: T) := by
  have hbase : ∀ k, F' k → w0.heap.size ≤ k := fun k hk => by
    rcases (k2 k hk).1 with h | h
    · exact (h2 k h).1
    · exact Nat.le_trans hb.size h
  refine ⟨k3.below hb hb.size (fun k hk => (h2 k hk).1), F', k1, fun k hk => ⟨hbase k hk, (k2 k hk).2, fun h => h⟩, ?_⟩
  have h4 : All W w0.heap.size T (fun k => F k ∨ F' k) := h3.mono (fun k hl h => by
    rcases h with h | h
    · exact .inr h
    · rcases (k2 k h).1 with h | h
      · exact .inr h
      · omega)
  exact (h4.kept k3 (fun k _ hk => .inl hk)).mono (fun k _ h => by
    rcases h with h | h
    · exact h.elim
    · exact .inr h)
/-- Something new to put into. -/
theorem Sit.fresh {w0 W : World} {T : List Thing} (h : Sit w0 W T) : Sit w0 (W.alloc (.cells #[.slice none 0 0, .bool false] 66)) (.out false W.heap.size [] :: T) :=
  h.add (F := fun k => k = W.heap.size) ((Below.refl _ _).alloc (Nat.le_refl _) _) ⟨none, 0, World.alloc_heap_new W _, Kd.R_nil _ _ _ _ _, rfl, fun k hk => by subst hk; simp⟩ (fun k hk => by subst hk; simp)
theorem Out.lt_all {w : World} {q : Nat} {F : Nat → Prop} {bs : List Int} (k : Out ob w q F bs) : ∀ k, F k → k < w.heap.size := by obtain ⟨_, _, _, _, _, h⟩ := k; exact h
theorem sit_out {w0 W W' : World} {T : List Thing} {q : Nat} {bs : List Int} {F : Nat → Prop} (hb : Below w0.heap.size w0 W) (h2 : ∀ k, F k → w0.heap.size ≤ k ∧ k < W.heap.size ∧ ¬ False) (h3 : All W w0.heap.size T (fun k => False ∨ F k)) (ht : OutTurned ob W q F bs W') : Sit w0 W' (.out ob q bs :: T) := by
  obtain ⟨F', k1, k2, k3⟩ := ht
  exact Sit.turn (t := .out ob q bs) hb h2 h3 k1 (fun k hk => ⟨k2 k hk, Out.lt_all k1 k hk⟩) k3
theorem sit_num {w0 W : World} {T : List Thing} {q : Nat} {bs : List Int} (n : Int) (h : Sit w0 W (.out ob q bs :: T)) (h1 : n < 9223372036854775808) (hl : bs.length ≤ 1099511627776) :
    Calls Try.prog 51 #[.pointer (some ⟨q, 0, none⟩), .int .i64 n] W fun e w' => e = .returned (.int .i64 (if n < 0 then 1 else 0)) ∧ Sit w0 w' (.out ob q (if n < 0 then bs else bs ++ digs n.toNat) :: T) := by
  obtain ⟨hb, F, k1, k2, k3⟩ := h
  refine (num_any q n F bs W k1 h1 hl).mono ?_
  rintro e w' ⟨rfl, ht⟩
  exact ⟨rfl, sit_out hb k2 k3 ht⟩
theorem sit_int {w0 W : World} {T : List Thing} {q : Nat} {bs : List Int} (n : Int) (h : Sit w0 W (.out ob q bs :: T)) (h0 : -9223372036854775808 ≤ n) (h1 : n < 9223372036854775808) (hl : bs.length ≤ 1099511627776) :
    Calls Try.prog 63 #[.pointer (some ⟨q, 0, none⟩), .int .i64 n] W fun e w' => e = .returned (.tuple #[]) ∧ Sit w0 w' (.out ob q (bs ++ digs (zig n)) :: T) := by
  obtain ⟨hb, F, k1, k2, k3⟩ := h
  refine (int_any q n F bs W k1 h0 h1 hl).mono ?_
  rintro e w' ⟨rfl, ht⟩
  exact ⟨rfl, sit_out hb k2 k3 ht⟩
theorem sit_all {w0 W : World} {T : List Thing} {q : Nat} {bs : List Int} (h : Sit w0 W (.out ob q bs :: T)) (hl : bs.length ≤ 1099511627776) :
    Calls Try.prog 32 #[.pointer (some ⟨q, 0, none⟩)] W fun e w' => ∃ A c, e = .returned (.slice A bs.length c) ∧ bs.length ≤ c ∧ Sit w0 w' (.row (.slice A bs.length c) bs :: .out ob q bs :: T) := by
  obtain ⟨hb, F, k1, k2, k3⟩ := h
  refine (all_any q F bs W k1 hl).mono ?_
  rintro e w' ⟨v, rfl, hv, hbl⟩
  obtain ⟨A, c, rfl⟩ := own_slice (Kd.own_of_R hv)
  refine ⟨A, c, rfl, (Kd.R_reads' hv).2.1, Sit.add ⟨hb, F, k1, k2, k3⟩ hbl (t := .row _ _) (F := fun k => W.heap.size ≤ k ∧ k < w'.heap.size) ?_ (fun k hk => hk)⟩
  exact R_zero hv
theorem Sit.row {w0 W : World} {T : List Thing} {A : Option Addr} {n c : Nat} {l : List Int} (h : Sit w0 W (.row (.slice A n c) l :: T)) : n = l.length ∧ n ≤ c ∧ Kd.C (Kd.int .u8) W A l.length l := by
  obtain ⟨hb, F, k1, k2, k3⟩ := h
  exact Kd.R_reads' k1

/-! #### What is got -/
theorem sit_in {w0 W W' : World} {T : List Thing} {g : Nat} {bs' : List Int} {M : Nat → Prop} {F : Nat → Prop} (hb : Below w0.heap.size w0 W) (h2 : ∀ k, F k → w0.heap.size ≤ k ∧ k < W.heap.size ∧ ¬ False) (h3 : All W w0.heap.size T (fun k => False ∨ F k)) (hg : F g) (hM : ∀ k, M k → F k) (ht : Inn W' g M bs') (hw : Went (fun k => k = g) W W') : Sit w0 W' (.inn g bs' :: T) :=
  Sit.turn (t := .inn g bs') hb h2 h3 ⟨M, ht, hg, hM⟩ (fun k hk => ⟨.inl hk, Nat.lt_of_lt_of_le (h2 k hk).2.1 hw.size⟩) (hw.mono (fun k hk => by subst hk; exact hg))
theorem sit_getnum {w0 W : World} {T : List Thing} {g : Nat} {bs : List Int} (h : Sit w0 W (.inn g bs :: T)) :
    Calls Try.prog 47 #[.pointer (some ⟨g, 0, none⟩)] W fun e w' => e = .returned (.tuple #[.int .i64 (getNum bs).v, .int .i64 (getNum bs).e]) ∧ Sit w0 w' (.inn g (getNum bs).left :: T) := by
  obtain ⟨hb, F, ⟨M, k1, k4, k5⟩, k2, k3⟩ := h
  refine (getnum_any g M bs W k1).mono ?_
  rintro e w' ⟨rfl, hi, hw⟩
  exact ⟨rfl, sit_in hb k2 k3 k4 k5 hi hw⟩
theorem sit_getint {w0 W : World} {T : List Thing} {g : Nat} {bs : List Int} (h : Sit w0 W (.inn g bs :: T)) :
    Calls Try.prog 60 #[.pointer (some ⟨g, 0, none⟩)] W fun e w' => e = .returned (.tuple #[.int .i64 (getInt bs).v, .int .i64 (getInt bs).e]) ∧ Sit w0 w' (.inn g (getInt bs).left :: T) := by
  obtain ⟨hb, F, ⟨M, k1, k4, k5⟩, k2, k3⟩ := h
  refine (getint_any g M bs W k1).mono ?_
  rintro e w' ⟨rfl, hi, hw⟩
  exact ⟨rfl, sit_in hb k2 k3 k4 k5 hi hw⟩
theorem sit_newin {w0 W : World} {T : List Thing} {A : Option Addr} {c : Nat} {b : List Int} (h : Sit w0 W T) (hC : Kd.C (Kd.int .u8) W A b.length b) (hc : b.length ≤ c) (hb : Bytes b) (hl : b.length ≤ 140737488351232) :
    Calls Try.prog 22 #[.slice A b.length c] W fun e w' => ∃ g, e = .returned (.pointer (some ⟨g, 0, none⟩)) ∧ Sit w0 w' (.inn g b :: T) := by
  refine (newin_any A c b W hC hc hb hl).mono ?_
  rintro e w' ⟨g, rfl, hi, hg, hbl⟩
  have hlt := hi.open_
  obtain ⟨_, _, _, _, _, _, _, hlt⟩ := hlt
  exact ⟨g, rfl, h.add hbl (t := .inn g b) (F := fun k => W.heap.size ≤ k ∧ k ≤ g) ⟨_, hi, ⟨hg, Nat.le_refl _⟩, fun k hk => ⟨hk.1, Nat.le_of_lt hk.2⟩⟩ (fun k hk => ⟨hk.1, Nat.lt_of_le_of_lt hk.2 hlt⟩)⟩
/-- The flag is written. -/
theorem Out.odd {w : World} {q : Nat} {F : Nat → Prop} {bs : List Int} (h : Out ob w q F bs) (b : Bool) : Out b (w.setCell ⟨q, 1, none⟩ (.bool b)) q F bs := by
  obtain ⟨A, cap, h1, h2, h3, h4⟩ := h
  refine ⟨A, cap, ?_, Kd.R_far h2 (fun k hk => hk.2) _, h3, fun k hk => by have := h4 k hk; simpa [World.setCell] using this⟩
  exact blk_put h1 1 _ rfl
theorem sit_odd {w0 W : World} {T : List Thing} {q : Nat} {bs : List Int} (b : Bool) (h : Sit w0 W (.out ob q bs :: T)) : Sit w0 (W.setCell ⟨q, 1, none⟩ (.bool b)) (.out b q bs :: T) := by
  obtain ⟨hb, F, h1, h2, h3⟩ := h
  have hq : F q := by obtain ⟨_, _, _, _, h, _⟩ := h1; exact h
  have k1 := Out.odd h1 b
  exact Sit.turn (t := .out ob q bs) hb h2 h3 k1 (fun k hk => ⟨.inl hk, Out.lt_all k1 k hk⟩) (Went.setq (Went.refl _ _) (.inl hq) _)
end Go.Proofs.Ytgdelfckhcgnhaa.Code
