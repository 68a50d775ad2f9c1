/- req: what Told tells. No conditions beside those that each contract states. -/
import Derived.Test.YtgdelfckhcgnhaaReqAns
namespace Go.Proofs.Ytgdelfckhcgnhaa.Code
open Go.RowKit Go.Proofs.Ytgdelfckhcgnhaa.Pa Go.Proofs.YtgdelfckhcgnhaaW.PrintWords Go.Proofs.YtgdelfckhcgnhaaW.PrintLast Go.Proofs.YtgdelfckhcgnhaaW.PrintMore
set_option linter.unusedVariables false
set_option linter.unusedSimpArgs false

/-- What Told reads. -/
def toldS (l : List Int) : (Bool × List Int) × Rep := Do.r.reply (false, l) ⟨0, 0, 0, [], []⟩
def toldP (l : List Int) : Rep × Int := if !(toldS l).1.1 && ((ansP (toldS l).2).2 == 0 && eqB l (ansP (toldS l).2).1) then ((toldS l).2, 0) else (⟨0, 0, 0, [], []⟩, 7)
def ToldTold (W : World) (R : Rep × Int) (e : Ending) (w' : World) : Prop := ∃ v3_ v4_ : Value, e = .returned (.tuple #[.agg #[.int .i64 R.1.c, .int .i64 R.1.a, .int .i64 R.1.b, v3_, v4_], .int .i64 R.2]) ∧ Kd.R k93 93 w' W.heap.size (fun k_ => some k_ ≠ v4_.ownBlock) v3_ R.1.L ∧ Kd.R k76 76 w' W.heap.size (fun _ => True) v4_ R.1.K ∧ Below W.heap.size W w'
theorem ToldTold.mk {W : World} {mc ma mb : Int} {L : List S93} {K : List S76} {E : Int} {w' : World} {v u : Value} {T : List Thing} (h : Sit W w' (row93 v L :: row76 u K :: T)) : ToldTold W (⟨mc, ma, mb, L, K⟩, E) (.returned (.tuple #[.agg #[.int .i64 mc, .int .i64 ma, .int .i64 mb, v, u], .int .i64 E])) w' :=
  ⟨v, u, rfl, h.rows2.1, h.rows2.2, h.below⟩
set_option maxRecDepth 100000 in
set_option maxHeartbeats 16000000 in
theorem told_any (A : Option Addr) (c : Nat) (l : List Int) (W : World) (hC : Kd.C (Kd.int .u8) W A l.length l) (hc : l.length ≤ c) (hb : Bytes l) (hl : l.length ≤ 140737488351232) :
    Calls Try.prog 20 #[.slice A l.length c] W (ToldTold W (toldP l)) := by
  have hA := (Sit.refl W).alloc #[.int .i64 0, .int .i64 0, .int .i64 0, .slice none 0 0, .slice none 0 0] 38
  obtain ⟨W1, hW1⟩ : ∃ W1, W1 = W.alloc (.cells #[.int .i64 0, .int .i64 0, .int .i64 0, .slice none 0 0, .slice none 0 0] 38) := ⟨_, rfl⟩
  rw [← hW1] at hA
  have hC1 : Kd.C (Kd.int .u8) W1 A l.length l := Kd.C_below hC hA.below
  have pn1 := sit_newin hA hC1 hc hb hl
  rw [hW1] at pn1
  have PN1 := Aside0.mk pn1
  have P2 : Aside0 (∀ (w1 : World) (g : Nat), Sit W w1 (.inn g l :: .blk W.heap.size (.cells #[.int .i64 0, .int .i64 0, .int .i64 0, .slice none 0 0, .slice none 0 0] 38 (0, 0)) :: []) → Sit W ((w1.alloc (.cells #[.pointer (some ⟨g, 0, none⟩), .bool false] 50)).alloc (.cells #[.int .i64 0, .int .i64 0, .int .i64 0, .slice none 0 0, .slice none 0 0] 38)) (.inn g l :: .blk w1.heap.size (rdr g false) :: .blk (w1.heap.size + 1) (.cells #[.int .i64 0, .int .i64 0, .int .i64 0, .slice none 0 0, .slice none 0 0] 38 (0, 0)) :: .blk W.heap.size (.cells #[.int .i64 0, .int .i64 0, .int .i64 0, .slice none 0 0, .slice none 0 0] 38 (0, 0)) :: [])) := ⟨fun w1 g h => by
    have h2 := ((h.alloc #[.pointer (some ⟨g, 0, none⟩), .bool false] 50).alloc #[.int .i64 0, .int .i64 0, .int .i64 0, .slice none 0 0, .slice none 0 0] 38).rev3
    have e : (w1.alloc (.cells #[.pointer (some ⟨g, 0, none⟩), .bool false] 50)).heap.size = w1.heap.size + 1 := by simp
    rw [e] at h2
    exact h2⟩
  obtain ⟨P, hP⟩ : ∃ P, P = toldS l := ⟨_, rfl⟩
  have hfits := replyR_fits (s := (false, l)) hb
  have hPs : Do.r.reply (false, l) ⟨0, 0, 0, [], []⟩ = P := by rw [hP]; rfl
  have pn3 := fun (W' : World) (g q rb : Nat) (T : List Thing) (h' : Sit W W' (.inn g (false, l).2 :: .blk q (rdr g (false, l).1) :: .blk rb (.cells (cs38 0 0 0 (.slice none 0 0) (.slice none 0 0)) 38 (0, 0)) :: T)) => replyR (s := (false, l)) h'
  rw [hPs] at hfits
  simp only [hPs] at pn3
  have hD : toldP l = if !P.1.1 && ((ansP P.2).2 == 0 && eqB l (ansP P.2).1) then (P.2, 0) else (⟨0, 0, 0, [], []⟩, 7) := by rw [hP]; rfl
  rw [hD]
  obtain ⟨⟨ob, rest⟩, ⟨mc, ma, mb, L', K'⟩⟩ := P
  obtain ⟨hok, hL4, hK8⟩ := hfits
  simp only at hL4 hK8 pn3
  obtain ⟨E, hE⟩ : ∃ E, E = (ansP ⟨mc, ma, mb, L', K'⟩).2 := ⟨_, rfl⟩
  obtain ⟨bs, hbs⟩ : ∃ bs, bs = (ansP ⟨mc, ma, mb, L', K'⟩).1 := ⟨_, rfl⟩
  have pn4 := fun (A' B' : Option Addr) (c' d' : Nat) (W' : World) (hC' : Kd.C k93 W' A' L'.length L') (hc' : L'.length ≤ c') (hD' : Kd.C k76 W' B' K'.length K') (hd' : K'.length ≤ d') => answer_any ⟨mc, ma, mb, L', K'⟩ A' B' c' d' W' hC' hc' hD' hd' hok
  simp only [← hE, ← hbs] at pn4 ⊢
  obtain ⟨q, hq⟩ : ∃ q, q = eqB l bs := ⟨_, rfl⟩
  have hqf : bytes_Equal.f l bs = some q := by rw [hq]; rfl
  rw [← hq]
  have P3 := Aside0.mk pn3
  have P4 := Aside0.mk pn4
  have HQ := Aside0.mk hqf
  have HCL := Aside0.mk hC
  have Hc := Aside0.mk hc
  obtain ⟨x, hx⟩ : ∃ x, x = (E == 0) := ⟨_, rfl⟩
  rw [← hx]
  have x1 : (E != 0) = !x := by rw [hx]; rfl
  have x2 : (E == 0) = x := hx.symm
  clear hx hW1 hA hC1 pn1 pn3 pn4 hqf hq hbs hE hok hL4 hK8 hPs hP hD hC hc hb hl
  cases ob with
  | true =>
    try simp only [Bool.not_true, Bool.not_false] at x1
    go_enter Try.func20, Try.ntmps20
    go_wp2_with (first | (go_at_call 22; (with_reducible refine PN1.out.mono ?_); rintro e' w1 ⟨g, rfl, hs⟩; have H1 := Aside0.mk (P2.out w1 g hs); clear hs) | (go_at_call 25; (with_reducible refine (rway _ H1.out).mono ?_); rintro e' w3 ⟨rfl, hs⟩; have H3 := Aside0.mk hs; clear hs) | (go_at_call 34; refine (P3.out _ _ _ _ _ H3.out).mono ?_; rintro e' w4 ⟨rfl, v', u', hs⟩; obtain ⟨A', c', rfl, hc', hC'⟩ := Kd.R_reads hs.tail.rot4.row93R; obtain ⟨B', d', rfl, hd', hD'⟩ := Kd.R_reads hs.rot4.row76R; have H4 := Aside0.mk hs; have HC4 := Aside0.mk hC'; have Hc4 := Aside0.mk hc'; have HD4 := Aside0.mk hD'; have Hd4 := Aside0.mk hd'; obtain ⟨y0, -⟩ := sit_cell (i := 0) (v := .int .i64 mc) hs.rot rfl; obtain ⟨y1, -⟩ := sit_cell (i := 1) (v := .int .i64 ma) hs.rot rfl; obtain ⟨y2, -⟩ := sit_cell (i := 2) (v := .int .i64 mb) hs.rot rfl; obtain ⟨y3, -⟩ := sit_cell (i := 3) (v := .slice A' L'.length c') hs.rot rfl; obtain ⟨y4, -⟩ := sit_cell (i := 4) (v := .slice B' K'.length d') hs.rot rfl; clear hs hC' hc' hD' hd') | (go_at_call 14; (with_reducible refine (P4.out A' B' c' d' _ HC4.out Hc4.out HD4.out Hd4.out).mono ?_); rintro e' w5 ⟨v0, rfl, hR, hb5⟩; obtain ⟨A5, c5, rfl, hc5, hC5⟩ := Kd.R_reads hR; have hs := H4.out.behind hb5; have H5 := Aside0.mk hs; have HC5 := Aside0.mk hC5; have Hc5 := Aside0.mk hc5; have o1 := sit_rdr hs; obtain ⟨y0, -⟩ := sit_cell (i := 0) (v := .int .i64 mc) hs.rot rfl; obtain ⟨y1, -⟩ := sit_cell (i := 1) (v := .int .i64 ma) hs.rot rfl; obtain ⟨y2, -⟩ := sit_cell (i := 2) (v := .int .i64 mb) hs.rot rfl; obtain ⟨y3, -⟩ := sit_cell (i := 3) (v := .slice A' L'.length c') hs.rot rfl; obtain ⟨y4, -⟩ := sit_cell (i := 4) (v := .slice B' K'.length d') hs.rot rfl; obtain ⟨z0, zf0⟩ := sit_cell (i := 0) (v := .int .i64 0) hs.tail.tail.tail.rot rfl; obtain ⟨z1, zf1⟩ := sit_cell (i := 1) (v := .int .i64 0) hs.tail.tail.tail.rot rfl; obtain ⟨z2, zf2⟩ := sit_cell (i := 2) (v := .int .i64 0) hs.tail.tail.tail.rot rfl; obtain ⟨z3, zf3⟩ := sit_cell (i := 3) (v := .slice none 0 0) hs.tail.tail.tail.rot rfl; obtain ⟨z4, zf4⟩ := sit_cell (i := 4) (v := .slice none 0 0) hs.tail.tail.tail.rot rfl; clear hs hR hC5 hc5 hb5) | (go_at_call 26; (with_reducible refine (bytes_Equal.calls A c l A5 c5 bs _ _ (Kd.C_below HCL.out H5.out.below) Hc.out HC5.out Hc5.out HQ.out).mono ?_); rintro e' w6 ⟨rfl, ⟨n6, rfl⟩⟩))
    have hs := H5.out
    have HF := (((((hs.tail.tail.tail.rot.set 0 (.int .i64 0)).set 1 (.int .i64 0)).set 2 (.int .i64 0)).set 3 (.slice none 0 0)).set 4 (.slice none 0 0))
    have hblk := HF.blk.1
    simp only [List.setIfInBounds_toArray, List.set_cons_zero, List.set_cons_succ] at hblk
    clear z0 z1 z2 z3 z4 zf0 zf1 zf2 zf3 zf4
    refine bodyPost_ret (results_ct rfl _ _ W.heap.size 38 #[.int .i64 0, .int .i64 0, .int .i64 0, .slice none 0 0, .slice none 0 0] (0, 0) _ rfl hblk Try.underlying38 rfl (by rfl)) rfl ?_
    exact ToldTold.mk (sit_nil93 (sit_nil76 HF))
  | false =>
  cases x with
  | false =>
    try simp only [Bool.not_true, Bool.not_false] at x1
    go_enter Try.func20, Try.ntmps20
    go_wp2_with (first | (go_at_call 22; (with_reducible refine PN1.out.mono ?_); rintro e' w1 ⟨g, rfl, hs⟩; have H1 := Aside0.mk (P2.out w1 g hs); clear hs) | (go_at_call 25; (with_reducible refine (rway _ H1.out).mono ?_); rintro e' w3 ⟨rfl, hs⟩; have H3 := Aside0.mk hs; clear hs) | (go_at_call 34; refine (P3.out _ _ _ _ _ H3.out).mono ?_; rintro e' w4 ⟨rfl, v', u', hs⟩; obtain ⟨A', c', rfl, hc', hC'⟩ := Kd.R_reads hs.tail.rot4.row93R; obtain ⟨B', d', rfl, hd', hD'⟩ := Kd.R_reads hs.rot4.row76R; have H4 := Aside0.mk hs; have HC4 := Aside0.mk hC'; have Hc4 := Aside0.mk hc'; have HD4 := Aside0.mk hD'; have Hd4 := Aside0.mk hd'; obtain ⟨y0, -⟩ := sit_cell (i := 0) (v := .int .i64 mc) hs.rot rfl; obtain ⟨y1, -⟩ := sit_cell (i := 1) (v := .int .i64 ma) hs.rot rfl; obtain ⟨y2, -⟩ := sit_cell (i := 2) (v := .int .i64 mb) hs.rot rfl; obtain ⟨y3, -⟩ := sit_cell (i := 3) (v := .slice A' L'.length c') hs.rot rfl; obtain ⟨y4, -⟩ := sit_cell (i := 4) (v := .slice B' K'.length d') hs.rot rfl; clear hs hC' hc' hD' hd') | (go_at_call 14; (with_reducible refine (P4.out A' B' c' d' _ HC4.out Hc4.out HD4.out Hd4.out).mono ?_); rintro e' w5 ⟨v0, rfl, hR, hb5⟩; obtain ⟨A5, c5, rfl, hc5, hC5⟩ := Kd.R_reads hR; have hs := H4.out.behind hb5; have H5 := Aside0.mk hs; have HC5 := Aside0.mk hC5; have Hc5 := Aside0.mk hc5; have o1 := sit_rdr hs; obtain ⟨y0, -⟩ := sit_cell (i := 0) (v := .int .i64 mc) hs.rot rfl; obtain ⟨y1, -⟩ := sit_cell (i := 1) (v := .int .i64 ma) hs.rot rfl; obtain ⟨y2, -⟩ := sit_cell (i := 2) (v := .int .i64 mb) hs.rot rfl; obtain ⟨y3, -⟩ := sit_cell (i := 3) (v := .slice A' L'.length c') hs.rot rfl; obtain ⟨y4, -⟩ := sit_cell (i := 4) (v := .slice B' K'.length d') hs.rot rfl; obtain ⟨z0, zf0⟩ := sit_cell (i := 0) (v := .int .i64 0) hs.tail.tail.tail.rot rfl; obtain ⟨z1, zf1⟩ := sit_cell (i := 1) (v := .int .i64 0) hs.tail.tail.tail.rot rfl; obtain ⟨z2, zf2⟩ := sit_cell (i := 2) (v := .int .i64 0) hs.tail.tail.tail.rot rfl; obtain ⟨z3, zf3⟩ := sit_cell (i := 3) (v := .slice none 0 0) hs.tail.tail.tail.rot rfl; obtain ⟨z4, zf4⟩ := sit_cell (i := 4) (v := .slice none 0 0) hs.tail.tail.tail.rot rfl; clear hs hR hC5 hc5 hb5) | (go_at_call 26; (with_reducible refine (bytes_Equal.calls A c l A5 c5 bs _ _ (Kd.C_below HCL.out H5.out.below) Hc.out HC5.out Hc5.out HQ.out).mono ?_); rintro e' w6 ⟨rfl, ⟨n6, rfl⟩⟩))
    have hs := H5.out
    have HF := (((((hs.tail.tail.tail.rot.set 0 (.int .i64 0)).set 1 (.int .i64 0)).set 2 (.int .i64 0)).set 3 (.slice none 0 0)).set 4 (.slice none 0 0))
    have hblk := HF.blk.1
    simp only [List.setIfInBounds_toArray, List.set_cons_zero, List.set_cons_succ] at hblk
    clear z0 z1 z2 z3 z4 zf0 zf1 zf2 zf3 zf4
    refine bodyPost_ret (results_ct rfl _ _ W.heap.size 38 #[.int .i64 0, .int .i64 0, .int .i64 0, .slice none 0 0, .slice none 0 0] (0, 0) _ rfl hblk Try.underlying38 rfl (by rfl)) rfl ?_
    exact ToldTold.mk (sit_nil93 (sit_nil76 HF))
  | true =>
  cases q with
  | false =>
    try simp only [Bool.not_true, Bool.not_false] at x1
    go_enter Try.func20, Try.ntmps20
    go_wp2_with (first | (go_at_call 22; (with_reducible refine PN1.out.mono ?_); rintro e' w1 ⟨g, rfl, hs⟩; have H1 := Aside0.mk (P2.out w1 g hs); clear hs) | (go_at_call 25; (with_reducible refine (rway _ H1.out).mono ?_); rintro e' w3 ⟨rfl, hs⟩; have H3 := Aside0.mk hs; clear hs) | (go_at_call 34; refine (P3.out _ _ _ _ _ H3.out).mono ?_; rintro e' w4 ⟨rfl, v', u', hs⟩; obtain ⟨A', c', rfl, hc', hC'⟩ := Kd.R_reads hs.tail.rot4.row93R; obtain ⟨B', d', rfl, hd', hD'⟩ := Kd.R_reads hs.rot4.row76R; have H4 := Aside0.mk hs; have HC4 := Aside0.mk hC'; have Hc4 := Aside0.mk hc'; have HD4 := Aside0.mk hD'; have Hd4 := Aside0.mk hd'; obtain ⟨y0, -⟩ := sit_cell (i := 0) (v := .int .i64 mc) hs.rot rfl; obtain ⟨y1, -⟩ := sit_cell (i := 1) (v := .int .i64 ma) hs.rot rfl; obtain ⟨y2, -⟩ := sit_cell (i := 2) (v := .int .i64 mb) hs.rot rfl; obtain ⟨y3, -⟩ := sit_cell (i := 3) (v := .slice A' L'.length c') hs.rot rfl; obtain ⟨y4, -⟩ := sit_cell (i := 4) (v := .slice B' K'.length d') hs.rot rfl; clear hs hC' hc' hD' hd') | (go_at_call 14; (with_reducible refine (P4.out A' B' c' d' _ HC4.out Hc4.out HD4.out Hd4.out).mono ?_); rintro e' w5 ⟨v0, rfl, hR, hb5⟩; obtain ⟨A5, c5, rfl, hc5, hC5⟩ := Kd.R_reads hR; have hs := H4.out.behind hb5; have H5 := Aside0.mk hs; have HC5 := Aside0.mk hC5; have Hc5 := Aside0.mk hc5; have o1 := sit_rdr hs; obtain ⟨y0, -⟩ := sit_cell (i := 0) (v := .int .i64 mc) hs.rot rfl; obtain ⟨y1, -⟩ := sit_cell (i := 1) (v := .int .i64 ma) hs.rot rfl; obtain ⟨y2, -⟩ := sit_cell (i := 2) (v := .int .i64 mb) hs.rot rfl; obtain ⟨y3, -⟩ := sit_cell (i := 3) (v := .slice A' L'.length c') hs.rot rfl; obtain ⟨y4, -⟩ := sit_cell (i := 4) (v := .slice B' K'.length d') hs.rot rfl; obtain ⟨z0, zf0⟩ := sit_cell (i := 0) (v := .int .i64 0) hs.tail.tail.tail.rot rfl; obtain ⟨z1, zf1⟩ := sit_cell (i := 1) (v := .int .i64 0) hs.tail.tail.tail.rot rfl; obtain ⟨z2, zf2⟩ := sit_cell (i := 2) (v := .int .i64 0) hs.tail.tail.tail.rot rfl; obtain ⟨z3, zf3⟩ := sit_cell (i := 3) (v := .slice none 0 0) hs.tail.tail.tail.rot rfl; obtain ⟨z4, zf4⟩ := sit_cell (i := 4) (v := .slice none 0 0) hs.tail.tail.tail.rot rfl; clear hs hR hC5 hc5 hb5) | (go_at_call 26; (with_reducible refine (bytes_Equal.calls A c l A5 c5 bs _ _ (Kd.C_below HCL.out H5.out.below) Hc.out HC5.out Hc5.out HQ.out).mono ?_); rintro e' w6 ⟨rfl, ⟨n6, rfl⟩⟩))
    have hs := H5.out.drewN n6
    have HF := (((((hs.tail.tail.tail.rot.set 0 (.int .i64 0)).set 1 (.int .i64 0)).set 2 (.int .i64 0)).set 3 (.slice none 0 0)).set 4 (.slice none 0 0))
    have hblk := HF.blk.1
    simp only [List.setIfInBounds_toArray, List.set_cons_zero, List.set_cons_succ] at hblk
    clear z0 z1 z2 z3 z4 zf0 zf1 zf2 zf3 zf4
    refine bodyPost_ret (results_ct rfl _ _ W.heap.size 38 #[.int .i64 0, .int .i64 0, .int .i64 0, .slice none 0 0, .slice none 0 0] (0, 0) _ rfl hblk Try.underlying38 rfl (by rfl)) rfl ?_
    exact ToldTold.mk (sit_nil93 (sit_nil76 HF))
  | true =>
    try simp only [Bool.not_true, Bool.not_false] at x1
    go_enter Try.func20, Try.ntmps20
    go_wp2_with (first | (go_at_call 22; (with_reducible refine PN1.out.mono ?_); rintro e' w1 ⟨g, rfl, hs⟩; have H1 := Aside0.mk (P2.out w1 g hs); clear hs) | (go_at_call 25; (with_reducible refine (rway _ H1.out).mono ?_); rintro e' w3 ⟨rfl, hs⟩; have H3 := Aside0.mk hs; clear hs) | (go_at_call 34; refine (P3.out _ _ _ _ _ H3.out).mono ?_; rintro e' w4 ⟨rfl, v', u', hs⟩; obtain ⟨A', c', rfl, hc', hC'⟩ := Kd.R_reads hs.tail.rot4.row93R; obtain ⟨B', d', rfl, hd', hD'⟩ := Kd.R_reads hs.rot4.row76R; have H4 := Aside0.mk hs; have HC4 := Aside0.mk hC'; have Hc4 := Aside0.mk hc'; have HD4 := Aside0.mk hD'; have Hd4 := Aside0.mk hd'; obtain ⟨y0, -⟩ := sit_cell (i := 0) (v := .int .i64 mc) hs.rot rfl; obtain ⟨y1, -⟩ := sit_cell (i := 1) (v := .int .i64 ma) hs.rot rfl; obtain ⟨y2, -⟩ := sit_cell (i := 2) (v := .int .i64 mb) hs.rot rfl; obtain ⟨y3, -⟩ := sit_cell (i := 3) (v := .slice A' L'.length c') hs.rot rfl; obtain ⟨y4, -⟩ := sit_cell (i := 4) (v := .slice B' K'.length d') hs.rot rfl; clear hs hC' hc' hD' hd') | (go_at_call 14; (with_reducible refine (P4.out A' B' c' d' _ HC4.out Hc4.out HD4.out Hd4.out).mono ?_); rintro e' w5 ⟨v0, rfl, hR, hb5⟩; obtain ⟨A5, c5, rfl, hc5, hC5⟩ := Kd.R_reads hR; have hs := H4.out.behind hb5; have H5 := Aside0.mk hs; have HC5 := Aside0.mk hC5; have Hc5 := Aside0.mk hc5; have o1 := sit_rdr hs; obtain ⟨y0, -⟩ := sit_cell (i := 0) (v := .int .i64 mc) hs.rot rfl; obtain ⟨y1, -⟩ := sit_cell (i := 1) (v := .int .i64 ma) hs.rot rfl; obtain ⟨y2, -⟩ := sit_cell (i := 2) (v := .int .i64 mb) hs.rot rfl; obtain ⟨y3, -⟩ := sit_cell (i := 3) (v := .slice A' L'.length c') hs.rot rfl; obtain ⟨y4, -⟩ := sit_cell (i := 4) (v := .slice B' K'.length d') hs.rot rfl; obtain ⟨z0, zf0⟩ := sit_cell (i := 0) (v := .int .i64 0) hs.tail.tail.tail.rot rfl; obtain ⟨z1, zf1⟩ := sit_cell (i := 1) (v := .int .i64 0) hs.tail.tail.tail.rot rfl; obtain ⟨z2, zf2⟩ := sit_cell (i := 2) (v := .int .i64 0) hs.tail.tail.tail.rot rfl; obtain ⟨z3, zf3⟩ := sit_cell (i := 3) (v := .slice none 0 0) hs.tail.tail.tail.rot rfl; obtain ⟨z4, zf4⟩ := sit_cell (i := 4) (v := .slice none 0 0) hs.tail.tail.tail.rot rfl; clear hs hR hC5 hc5 hb5) | (go_at_call 26; (with_reducible refine (bytes_Equal.calls A c l A5 c5 bs _ _ (Kd.C_below HCL.out H5.out.below) Hc.out HC5.out Hc5.out HQ.out).mono ?_); rintro e' w6 ⟨rfl, ⟨n6, rfl⟩⟩))
    have hs := H5.out.drewN n6
    have HF := (((((hs.tail.tail.tail.rot.set 0 (.int .i64 mc)).set 1 (.int .i64 ma)).set 2 (.int .i64 mb)).set 3 (.slice A' L'.length c')).set 4 (.slice B' K'.length d'))
    have hblk := HF.blk.1
    simp only [List.setIfInBounds_toArray, List.set_cons_zero, List.set_cons_succ] at hblk
    clear z0 z1 z2 z3 z4 zf0 zf1 zf2 zf3 zf4
    refine bodyPost_ret (results_ct rfl _ _ W.heap.size 38 #[.int .i64 mc, .int .i64 ma, .int .i64 mb, .slice A' L'.length c', .slice B' K'.length d'] (0, 0) _ rfl hblk Try.underlying38 rfl (by rfl)) rfl ?_
    exact ToldTold.mk HF.tail.swap
end Go.Proofs.Ytgdelfckhcgnhaa.Code
