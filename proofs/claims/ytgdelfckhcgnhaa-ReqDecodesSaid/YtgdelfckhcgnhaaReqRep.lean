/- req: how a reply's fields are gone through. No conditions beside those that each contract states. -/
import Derived.Test.YtgdelfckhcgnhaaReqDec
import Derived.StillTailTactics
namespace Go.Proofs.Ytgdelfckhcgnhaa.Code
open Go.RowKit Go.Proofs.Ytgdelfckhcgnhaa.Pa Go.Proofs.YtgdelfckhcgnhaaW.PrintWords Go.Proofs.YtgdelfckhcgnhaaW.PrintLast Go.Proofs.YtgdelfckhcgnhaaW.PrintMore
attribute [local go_sem] Way.eF Way.eW Way.eL Way.eE
set_option linter.unusedVariables false
set_option linter.unusedSimpArgs false

/-- A reply's fields: its numbers, its lines, its trail. -/
structure Rep where
  c : Int
  a : Int
  b : Int
  L : List S93
  K : List S76
def Do.reply {σ : Type} (D : Do σ) (s : σ) (r : Rep) : σ × Rep :=
  let p1 := D.num s r.c
  let p2 := D.whole p1.1 r.a
  let p3 := D.whole p2.1 r.b
  let p4 := D.lin p3.1 r.L
  let p5 := D.ent p4.1 r.K
  (p5.1, ⟨p1.2, p2.2, p3.2, p4.2, p5.2⟩)
def cs38 (c a b : Int) (v u : Value) : Array Value := #[.int .i64 c, .int .i64 a, .int .i64 b, v, u]
theorem sit_way {w0 W : World} {w0' : World} (Y : Way w0') {A T : List Thing} {X : Thing} {b : Nat} {i : Nat} {v : Value} (h : Sit w0 W (A ++ X :: .blk b (.cells (wayC Y.nf Y.nw Y.nl Y.ne Y.q) 58 (0, 0)) :: T)) (hi : (wayC Y.nf Y.nw Y.nl Y.ne Y.q)[i]? = some v) : W.cell? ⟨b, i, none⟩ = some v := (sit_cell h.hd2 hi).1
set_option maxRecDepth 100000 in
set_option maxHeartbeats 16000000 in
theorem reply_any {w0 : World} (Y : Way w0) {W : World} {T : List Thing} {rb : Nat} {s : Y.σ} {r : Rep} {v u : Value} (h : Sit w0 W (Y.H s ++ .blk rb (.cells (cs38 r.c r.a r.b v u) 38 (0, 0)) :: T)) (h1 : Y.inr r.c) (h2 : Y.inr r.a) (h3 : Y.inr r.b) (hok : Y.ok 5 s) (hp : Y.pre v r.L) (hp4 : Y.pre4 u r.K) :
    Calls Try.prog 34 #[.pointer (some ⟨rb, 0, none⟩), .agg (wayC Y.nf Y.nw Y.nl Y.ne Y.q)] W fun e' w' => e' = .returned (.tuple #[]) ∧ ∃ v' u', Sit w0 w' (Y.H (Y.plain.reply s r).1 ++ .blk rb (.cells (cs38 (Y.plain.reply s r).2.c (Y.plain.reply s r).2.a (Y.plain.reply s r).2.b v' u') 38 (0, 0)) :: row76 u' (Y.plain.reply s r).2.K :: row93 v' (Y.plain.reply s r).2.L :: T) := by
  obtain ⟨c, a, b, L, K⟩ := r
  obtain ⟨p1, hp1⟩ : ∃ p, p = Y.num s c := ⟨_, rfl⟩
  obtain ⟨p2, hp2⟩ : ∃ p, p = Y.whole p1.1 a := ⟨_, rfl⟩
  obtain ⟨p3, hp3⟩ : ∃ p, p = Y.whole p2.1 b := ⟨_, rfl⟩
  obtain ⟨p4, hp44⟩ : ∃ p, p = Y.lin p3.1 L := ⟨_, rfl⟩
  obtain ⟨p5, hp5⟩ : ∃ p, p = Y.ent p4.1 K := ⟨_, rfl⟩
  have hR : Y.plain.reply s ⟨c, a, b, L, K⟩ = (p5.1, ⟨p1.2, p2.2, p3.2, p4.2, p5.2⟩) := by subst hp1 hp2 hp3 hp44 hp5; rfl
  rw [hR]
  have o1 : Y.ok 4 p1.1 := hp1 ▸ Y.onum hok h1
  have o2 : Y.ok 3 p2.1 := hp2 ▸ Y.owhole o1 h2
  have o3 : Y.ok 2 p3.1 := hp3 ▸ Y.owhole o2 h3
  have o4 : Y.ok 1 p4.1 := hp44 ▸ Y.olin o3 hp
  have P1 : Aside0 (∀ (w : World) (T : List Thing), Sit w0 w (Y.H s ++ .blk rb (.cells (cs38 c a b v u) 38 (0, 0)) :: T) → Calls Try.prog Y.nf #[.pointer (some ⟨Y.q, 0, none⟩), .pointer (some ⟨rb, 0, none⟩)] w fun e' w' => e' = .returned (.tuple #[]) ∧ Sit w0 w' (Y.H p1.1 ++ .blk rb (.cells (cs38 p1.2 a b v u) 38 (0, 0)) :: T)) := ⟨fun w T h => by rw [hp1]; exact Y.cnum hok h1 (i := 0) rfl h⟩
  have P2 : Aside0 (∀ (w : World) (T : List Thing), Sit w0 w (Y.H p1.1 ++ .blk rb (.cells (cs38 p1.2 a b v u) 38 (0, 0)) :: T) → Calls Try.prog Y.nw #[.pointer (some ⟨Y.q, 0, none⟩), .pointer (some ⟨rb, 1, none⟩)] w fun e' w' => e' = .returned (.tuple #[]) ∧ Sit w0 w' (Y.H p2.1 ++ .blk rb (.cells (cs38 p1.2 p2.2 b v u) 38 (0, 0)) :: T)) := ⟨fun w T h => by rw [hp2]; exact Y.cwhole o1 h2 (i := 1) rfl h⟩
  have P3 : Aside0 (∀ (w : World) (T : List Thing), Sit w0 w (Y.H p2.1 ++ .blk rb (.cells (cs38 p1.2 p2.2 b v u) 38 (0, 0)) :: T) → Calls Try.prog Y.nw #[.pointer (some ⟨Y.q, 0, none⟩), .pointer (some ⟨rb, 2, none⟩)] w fun e' w' => e' = .returned (.tuple #[]) ∧ Sit w0 w' (Y.H p3.1 ++ .blk rb (.cells (cs38 p1.2 p2.2 p3.2 v u) 38 (0, 0)) :: T)) := ⟨fun w T h => by rw [hp3]; exact Y.cwhole o2 h3 (i := 2) rfl h⟩
  have P4 : Aside0 (∀ (w : World) (T : List Thing), Sit w0 w (Y.H p3.1 ++ .blk rb (.cells (cs38 p1.2 p2.2 p3.2 v u) 38 (0, 0)) :: T) → Calls Try.prog Y.nl #[.pointer (some ⟨Y.q, 0, none⟩), .pointer (some ⟨rb, 3, none⟩)] w fun e' w' => e' = .returned (.tuple #[]) ∧ ∃ v', Sit w0 w' (Y.H p4.1 ++ .blk rb (.cells (cs38 p1.2 p2.2 p3.2 v' u) 38 (0, 0)) :: row93 v' p4.2 :: T)) := ⟨fun w T h => by rw [hp44]; exact Y.clin o3 hp (i := 3) rfl h⟩
  have P5 : Aside0 (∀ (w : World) (v' : Value) (T : List Thing), Sit w0 w (Y.H p4.1 ++ .blk rb (.cells (cs38 p1.2 p2.2 p3.2 v' u) 38 (0, 0)) :: T) → Calls Try.prog Y.ne #[.pointer (some ⟨Y.q, 0, none⟩), .pointer (some ⟨rb, 4, none⟩)] w fun e' w' => e' = .returned (.tuple #[]) ∧ ∃ u', Sit w0 w' (Y.H p5.1 ++ .blk rb (.cells (cs38 p1.2 p2.2 p3.2 v' u') 38 (0, 0)) :: row76 u' p5.2 :: T)) := ⟨fun w v' T h => by rw [hp5]; exact Y.cent o4 hp4 (i := 4) rfl h⟩
  have hA := (h.alloc (wayC Y.nf Y.nw Y.nl Y.ne Y.q) 58).ins
  obtain ⟨Wx, hWx⟩ : ∃ Wx, Wx = W.alloc (.cells (wayC Y.nf Y.nw Y.nl Y.ne Y.q) 58) := ⟨_, rfl⟩
  rw [← hWx] at hA
  have wc0 := sit_way (i := 0) (v := .func (.func Y.nf) #[.pointer (some ⟨Y.q, 0, none⟩)] #[]) Y hA rfl
  have H0 := Aside0.mk hA
  clear h h1 h2 h3 hok hp hp4 hp1 hp2 hp3 hp44 hp5 hR o1 o2 o3 o4 hA
  go_enter Try.func34, Try.ntmps34
  go_wp2
  show Code.wp _ _ _ _ (W.alloc (.cells (wayC Y.nf Y.nw Y.nl Y.ne Y.q) 58))
  rw [← hWx]
  clear hWx
  go_still_tail 5, (by kernel_rfl)
  go_wp2_with (refine (P1.out _ _ H0.out.drew).mono ?_; rintro e' w1 ⟨rfl, hs⟩; have H1 := Aside0.mk hs; have wc1 := sit_way (i := 1) (v := .func (.func Y.nw) #[.pointer (some ⟨Y.q, 0, none⟩)] #[]) Y hs rfl; clear hs)
  go_still_tail 5, (by kernel_rfl)
  go_wp2_with (refine (P2.out _ _ H1.out.drew).mono ?_; rintro e' w2 ⟨rfl, hs⟩; have H2 := Aside0.mk hs; have wc2 := sit_way (i := 1) (v := .func (.func Y.nw) #[.pointer (some ⟨Y.q, 0, none⟩)] #[]) Y hs rfl; clear hs)
  go_still_tail 5, (by kernel_rfl)
  go_wp2_with (refine (P3.out _ _ H2.out.drew).mono ?_; rintro e' w3 ⟨rfl, hs⟩; have H3 := Aside0.mk hs; have wc3 := sit_way (i := 2) (v := .func (.func Y.nl) #[.pointer (some ⟨Y.q, 0, none⟩)] #[]) Y hs rfl; clear hs)
  go_still_tail 5, (by kernel_rfl)
  go_wp2_with (refine (P4.out _ _ H3.out.drew).mono ?_; rintro e' w4 ⟨rfl, v', hs⟩; have hs2 := hs.perm (List.Perm.append_left (Y.H p4.1) ((List.Perm.swap _ _ _).cons _)); have H4 := Aside0.mk hs2; have wc4 := sit_way (i := 3) (v := .func (.func Y.ne) #[.pointer (some ⟨Y.q, 0, none⟩)] #[]) Y hs2 rfl; clear hs hs2)
  go_still_tail 5, (by kernel_rfl)
  go_wp2_with (refine (P5.out _ _ _ H4.out.drew).mono ?_; rintro e' w5 ⟨rfl, u', hs⟩; have H5 := Aside0.mk hs; clear hs)
  go_end0
  refine ⟨rfl, v', u', ?_⟩
  exact (H5.out.perm (((List.Perm.swap _ _ _).cons _).append_left _)).hd2.tail
end Go.Proofs.Ytgdelfckhcgnhaa.Code
