/- The chapter's examples hold: the walk of awake. -/
import Derived.Test.YtdkijmlfffnilaaPb1
import Derived.Lib.SlBytesConst
namespace Go.Proofs.Ytdkijmlfffnilaa.Ext
set_option linter.unusedVariables false
open Go.RowKit Go.Proofs.YtdkijmlfffnilaaW.PrintWords Go.Proofs.YtdkijmlfffnilaaW.PrintLast Go.Proofs.YtdkijmlfffnilaaW.PrintMore

/-- A literal's row of bytes, marked or not, reads as its list. -/
theorem C_lit (w : World) (e : TypeId) (m : Nat × Nat) (xs : List Int) (hx : xs.length ≤ 9223372036854775807) :
    Kd.C (Kd.int .u8) (w.alloc (.cells (xs.map (Value.int .u8)).toArray e m)) (some ⟨w.heap.size, 0, none⟩) xs.length xs := by
  refine Kd.C_of_reads (d := (0 : Int)) (h1 := fun _ => rfl) ⟨rfl, hx, fun _ => ⟨_, rfl, fun j hj => ?_⟩⟩
  rw [add_plain]
  have hb := heap_alloc_new w (.cells (xs.map (Value.int .u8)).toArray e m)
  rw [cell_of_row _ _ _ _ _ _ hb]
  simp [hj]

def quartermasterlaw04_awake.f : Option Bool := some true
set_option maxRecDepth 100000 in
set_option maxHeartbeats 4000000 in
theorem quartermasterlaw04_awake.calls (r : Bool) (w : World) (h : quartermasterlaw04_awake.f = some r) :
    Calls Try.prog 8 #[] w fun e w' => e = .returned (.bool r) ∧ Below w.heap.size w w' := by
  obtain rfl := Option.some.inj h
  clear h
  have kc := fun (w : World) (C : Array Value) (n c : Nat) => Lib.run_convert_bytes_const (P := Try.prog) w 22 5 C n c Try.underlying22 Try.underlying5
  have s1 : Pa.crc_Sum.f [49, 50, 51, 52, 53, 54, 55, 56, 57] = some 3808858755 := by decide +kernel
  have s2 : Pa.crc_Sum.f [] = some 0 := by decide +kernel
  have S1 := Aside0.mk s1
  have S2 := Aside0.mk s2
  clear s1 s2
  have q1 : crc_Seal.f [97] = some ([97] ++ le4 (moreS 0 [97])) := by decide +kernel
  have q2 : Pb.crc_Whole.f 10 ([97] ++ le4 (moreS 0 [97])) = some true := by decide +kernel
  have q3 : Pb.crc_Whole.f 10 [97, 98, 99, 100, 101] = some false := by decide +kernel
  have Q1 := Aside0.mk q1
  have Q2 := Aside0.mk q2
  have Q3 := Aside0.mk q3
  clear q1 q2 q3
  go_enter Try.func8, Try.ntmps8
  go_wp2_with fail
  refine (Pa.crc_Sum.calls (some ⟨w.heap.size, 0, none⟩) 9 [49, 50, 51, 52, 53, 54, 55, 56, 57] _ _ (C_lit w 5 (9, 10) [49, 50, 51, 52, 53, 54, 55, 56, 57] (by decide)) (by decide) S1.out).mono ?_
  rintro e w1 ⟨rfl, hb1⟩
  have HB1 := Aside0.mk hb1
  clear hb1
  go_wp2_with fail
  refine (Pa.crc_Sum.calls none 0 [] _ _ (Kd.C_nil _ _) (by decide) S2.out).mono ?_
  rintro e w2 ⟨rfl, hb2⟩
  have HB2 := Aside0.mk hb2
  clear hb2
  go_wp2_with fail
  refine (crc_Seal.calls (some ⟨w2.heap.size, 0, none⟩) 1 [97] _ _ (C_lit w2 5 (1, 2) [97] (by decide)) (by decide) Q1.out).mono ?_
  rintro e w3 ⟨v3, rfl, hv3, hb3⟩
  have HB3 := Aside0.mk hb3
  obtain ⟨A3, c3, rfl, hlc3, hC3⟩ := Kd.R_reads hv3
  have HC3 := Aside0.mk hC3
  clear hb3 hv3 hC3
  go_wp2_with fail
  refine (Pb.crc_Whole.calls 10 A3 c3 _ _ _ HC3.out hlc3 Q2.out).mono ?_
  rintro e w4 ⟨rfl, hb4⟩
  have HB4 := Aside0.mk hb4
  clear hb4
  go_wp2_with fail
  refine (Pb.crc_Whole.calls 10 (some ⟨w4.heap.size, 0, none⟩) 5 [97, 98, 99, 100, 101] _ _ (C_lit w4 5 (5, 6) [97, 98, 99, 100, 101] (by decide)) (by decide) Q3.out).mono ?_
  rintro e w5 ⟨rfl, hb5⟩
  have HB5 := Aside0.mk hb5
  clear hb5
  go_wp2
  go_ret
  refine ⟨rfl, ?_⟩
  have z1 := below_then (below_alloc (Below.refl w.heap.size w) _) (by simp) HB1.out
  have z2 := below_then z1 z1.size HB2.out
  have z3 := below_then (below_alloc z2 _) (by have := z2.size; simp; omega) HB3.out
  have z4 := below_then z3 z3.size HB4.out
  exact below_then (below_alloc z4 _) (by have := z4.size; simp; omega) HB5.out
end Go.Proofs.Ytdkijmlfffnilaa.Ext
