/- The sum of bytes, and of others behind them, is that of all; what sum it goes on from counts modulo 2^32: the law over numbers and lists. At most 2000 bytes each, as the statement itself bounds them. -/
import Derived.Test.YtdkijmlfffnilaaPx2
import Derived.Test.YtdkijmlfffnilaaPureWhole
namespace Go.Proofs.Ytdkijmlfffnilaa.Pure
open Go.RowKit Go.Proofs.Ytdkijmlfffnilaa.Px Go.Proofs.Ytdkijmlfffnilaa.Ext Go.Proofs.YtdkijmlfffnilaaW.PrintWords Go.Proofs.YtdkijmlfffnilaaW.PrintLast

theorem more_f {a : Int} {l : List Int} (ho : okB l = true) : crc_More.f a l = some ((moreS a l : Nat) : Int) := by
  unfold crc_More.f; rw [if_pos ho]
theorem moreS_mod {a b : Int} (h : a % 4294967296 = b % 4294967296) (l : List Int) : moreS a l = moreS b l := by
  unfold moreS; rw [h]
theorem moreS_nat {n : Nat} (h : n < 4294967296) (l : List Int) : moreS (n : Int) l = feed (n ^^^ 4294967295) l ^^^ 4294967295 := by
  unfold moreS
  have : ((n : Int) % 4294967296).toNat = n := by omega
  rw [this]
theorem moreS_zero (l : List Int) : moreS 0 l = feed 4294967295 l ^^^ 4294967295 := by
  have := moreS_nat (n := 0) (by decide) l
  rw [Nat.zero_xor] at this
  exact this
theorem moreS_append {a b : List Int} (ha : okB a = true) : moreS ((moreS 0 a : Nat) : Int) b = moreS 0 (a ++ b) := by
  rw [moreS_nat (moreS_lt 0 ha), moreS_zero a, xor_all_twice, moreS_zero, feed_append]
theorem moreS_none {a : List Int} (ha : okB a = true) : moreS ((moreS 0 a : Nat) : Int) [] = moreS 0 a := by
  rw [moreS_append ha, List.append_nil]

theorem CrcParts : quartermasterlaw04_CrcParts.Pure := by
  intro a b t _ ha8 hwa _ hb8 hwb _
  have hoa := okB_wf hwa
  have hob := okB_wf hwb
  refine ⟨2, ?_⟩
  unfold quartermasterlaw04_CrcParts.f quartermasterlaw04_awake.f
  simp only [Option.bind_some, if_true]
  have J1 : quartermasterlaw04_CrcParts.j0 2 a b t true true = some true := by simp only [quartermasterlaw04_CrcParts.j0, if_true]
  by_cases h1 : (a.length : Int) > 2000
  · rw [if_pos h1]; exact J1
  rw [if_neg h1]
  by_cases h2 : (b.length : Int) > 2000
  · rw [if_pos h2]; exact J1
  rw [if_neg h2]
  by_cases h3 : t < -1000
  · rw [if_pos h3]; exact J1
  rw [if_neg h3]
  by_cases h4 : t > 1000
  · rw [decide_eq_true h4]; exact J1
  rw [decide_eq_false h4]
  simp only [quartermasterlaw04_CrcParts.j0, Bool.false_eq_true, if_false]
  rw [sum_f hoa]
  simp only [Option.bind_some]
  rw [if_pos (by simp; omega), if_pos (by simp; omega)]
  have hs := moreS_lt 0 hoa
  rw [more_f hob, List.nil_append, sum_f (okB_append hoa hob), moreS_append hoa]
  simp only [Option.bind_some, if_true]
  have hw : wrap64 ((moreS 0 a : Nat) + wrap64 (t * 4294967296)) % 4294967296 = ((moreS 0 a : Nat) : Int) % 4294967296 := by unfold wrap64; omega
  rw [more_f hob, moreS_mod hw, moreS_append hoa]
  simp only [Option.bind_some, if_true]
  rw [more_f (by rfl), moreS_none hoa]
  simp only [Option.bind_some, if_true]
  rw [if_pos (by omega), decide_eq_true (by omega)]

end Go.Proofs.Ytdkijmlfffnilaa.Pure
