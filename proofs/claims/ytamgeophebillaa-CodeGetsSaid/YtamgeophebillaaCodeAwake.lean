/- The chapter's example comes to true. No conditions. -/
import Derived.Test.YtamgeophebillaaCodeSame
namespace Go.Proofs.Ytamgeophebillaa.Code
open Go.RowKit Go.Proofs.Ytamgeophebillaa.Pa Go.Proofs.YtamgeophebillaaW.PrintWords Go.Proofs.YtamgeophebillaaW.PrintLast Go.Proofs.YtamgeophebillaaW.PrintMore
set_option linter.unusedVariables false

set_option maxRecDepth 100000 in
set_option maxHeartbeats 8000000 in
theorem awake_any (w : World) : Calls Try.prog 8 #[] w fun e w' => e = .returned (.bool true) ∧ Below w.heap.size w w' := by
  have s0 := (Sit.refl w).fresh
  have p1 := sit_num 300 s0 (by decide) (by simp)
  clear s0
  go_enter Try.func8, Try.ntmps8
  go_wp2_with fail
  go_at_call 24
  refine p1.mono ?_
  rintro e w1 ⟨rfl, hs⟩
  have d300 : ((if (300 : Int) < 0 then [] else [] ++ digs (300 : Int).toNat) : List Int) = [172, 2] := by
    rw [if_neg (by decide), show (300 : Int).toNat = 300 from rfl, digs_big (by decide), digs_small (by decide)]; rfl
  rw [d300] at hs
  have p2 := sit_int (-1) hs (by decide) (by decide) (by simp)
  clear p1 hs d300
  go_wp2_with fail
  go_at_call 25
  refine p2.mono ?_
  rintro e w2 ⟨rfl, hs⟩
  have d1 : ([172, 2] ++ digs (zig (-1)) : List Int) = [172, 2, 1] := by
    rw [show zig (-1) = 1 from rfl, digs_small (by decide)]; rfl
  rw [d1] at hs
  have p3 := sit_int 1 hs (by decide) (by decide) (by simp)
  clear p2 hs d1
  go_wp2_with fail
  go_at_call 25
  refine p3.mono ?_
  rintro e w3 ⟨rfl, hs⟩
  have d2 : ([172, 2, 1] ++ digs (zig 1) : List Int) = [172, 2, 1, 2] := by
    rw [show zig 1 = 2 from rfl, digs_small (by decide)]; rfl
  rw [d2] at hs
  have p4 := sit_bytes_blk (n := 2) (c := 2) (b := [7, 8]) (hs.alloc #[.int .u8 7, .int .u8 8] 5) rfl (by simp) (by simp) (by simp)
  clear p3 hs d2
  go_wp2_with fail
  go_at_call 26
  refine p4.mono ?_
  rintro e w4 ⟨rfl, hs⟩
  have d3 : ((if 4096 < ([7, 8] : List Int).length then [172, 2, 1, 2] else [172, 2, 1, 2] ++ (digs ([7, 8] : List Int).length ++ [7, 8])) : List Int) = [172, 2, 1, 2, 2, 7, 8] := by
    rw [if_neg (by decide), digs_small (by decide)]; rfl
  rw [d3] at hs
  have p5 := sit_all hs (by simp)
  clear p4 hs d3
  go_wp2_with fail
  go_at_call 15
  refine p5.mono ?_
  rintro e w5 ⟨A, c, rfl, hc, hs⟩
  have hr := hs.row.2.2
  have hs2 := hs.alloc #[.int .u8 172, .int .u8 2, .int .u8 1, .int .u8 2, .int .u8 2, .int .u8 7, .int .u8 8] 5
  have hb := hs2.blk.1
  have p6 := same_any (c1 := 7) hs2.swap.row.2.2 hc (C_bytes (n := 7) [172, 2, 1, 2, 2, 7, 8] rfl (by decide) hb) (by simp) (by simp)
  rw [show (([172, 2, 1, 2, 2, 7, 8] : List Int) == [172, 2, 1, 2, 2, 7, 8]) = true from rfl] at p6
  have HS := Aside0.mk hs2.tail.tail
  clear p5 hs hs2 hr hb hc
  go_wp2_with fail
  go_at_call 14
  refine p6.mono ?_
  rintro e w6 ⟨rfl, hd⟩
  have hs := (HS.out.drawn hd).alloc #[.int .u8 128, .int .u8 0] 5
  have p7 := sit_newin (c := 2) (b := [128, 0]) hs (C_bytes (n := 2) [128, 0] rfl (by decide) hs.blk.1) (by simp) (by intro x hx; simp at hx; omega) (by simp)
  clear p6 hd HS hs
  go_wp2_with fail
  go_at_call 16
  refine p7.mono ?_
  rintro e w7 ⟨g, rfl, hs⟩
  have p8 := sit_getnum hs
  have g1 : getNum [128, 0] = ⟨0, [128, 0], 7⟩ := by simp [getNum, seen, look]
  rw [g1] at p8
  clear p7 hs g1
  go_wp2_with fail
  go_at_call 17
  refine p8.mono ?_
  rintro e w8 ⟨rfl, hs⟩
  have hs2 := hs.alloc #[.int .u8 5] 5
  have p9 := sit_newin (c := 1) (b := [5]) hs2 (C_bytes (n := 1) [5] rfl (by decide) hs2.blk.1) (by simp) (by intro x hx; simp at hx; omega) (by simp)
  clear p8 hs hs2
  go_wp2_with fail
  go_at_call 16
  refine p9.mono ?_
  rintro e w9 ⟨g2, rfl, hs⟩
  have p10 := sit_left hs
  have HS := Aside0.mk hs.below
  clear p9 hs
  go_wp2_with fail
  go_at_call 23
  refine p10.mono ?_
  rintro e w10 ⟨rfl, rfl⟩
  clear p10
  go_wp2
  go_ret
  exact ⟨rfl, HS.out⟩
end Go.Proofs.Ytamgeophebillaa.Code
