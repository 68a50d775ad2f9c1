/- StockBack as a plain law. -/
import Derived.Test.YtkhghabenhhhaaaPy3
import Derived.Test.YtkhghabenhhhaaaPureStockY
import Derived.Test.YtkhghabenhhhaaaStockBack
namespace Go.Proofs.Ytkhghabenhhhaaa.Pure
open Go Go.RowKit Go.Proofs.Ytkhghabenhhhaaa.Pa Go.Proofs.Ytkhghabenhhhaaa.Py Go.Proofs.Ytkhghabenhhhaaa.Ext Go.Proofs.Ytkhghabenhhhaaa.Stock Go.Proofs.YtkhghabenhhhaaaW.PrintWords Go.Proofs.YtkhghabenhhhaaaW.PrintLast
set_option linter.unusedVariables false

theorem w64neg {q : Int} (h0 : 0 < q) (h1 : q < 9223372036854775808) : wrap64 (-q) = -q := w64 (by omega) (by omega)
theorem inI_neg {q : Int} (h0 : 0 < q) (h1 : q < 9223372036854775808) : inI (-q) := ⟨by omega, by omega⟩
theorem back_j2 {k : Nat} {l : List S37} {tw a b q : Int} (hl : Lim l) (hm : May l) (hq : inI q) (hk : 100 < k) : quartermasterlaw17_StockBack.j2 (k + 1) l tw a b q = some true := by
  have hn := hm.length
  rw [quartermasterlaw17_StockBack.j2, move_f hl hq]
  simp only [Option.bind_some]
  by_cases h : (moveP l a b q tw).2 = 0
  · have hg := move_good hl a b q tw
    obtain ⟨h1, h2⟩ := move_back hl h
    rw [if_pos h, move_f hg.2.2 hq]
    simp only [Option.bind_some]
    rw [h2, h1, same_f (by omega) (by omega)]
    rfl
  · rw [if_neg h]
theorem back_j1 {k : Nat} {l : List S37} {tw a b q : Int} (hl : Lim l) (hm : May l) (hq : inI q) (hk : 100 < k) : quartermasterlaw17_StockBack.j1 (k + 2) l tw a b q = some true := by
  have hn := hm.length
  rw [quartermasterlaw17_StockBack.j1, take_f hl hq]
  simp only [Option.bind_some]
  by_cases h : (turnedP (takeF q) l a b q).2 = 0
  · obtain ⟨_, hp, h0, _, _⟩ := turned_ok h
    have hg := take_good hl a b q
    obtain ⟨h1, h2⟩ := take_less hl h
    rw [if_pos h, w64neg h0 hq.2, adjust_f hg.2.2 (inI_neg h0 hq.2), adjust_neg (hg.1 h) hp h0 hq.2]
    simp only [Option.bind_some]
    rw [h2, h1, same_f (by omega) (by omega)]
    simp only [Option.bind_some]
    rw [if_pos trivial, if_pos trivial]
    exact back_j2 hl hm hq hk
  · rw [if_neg h]
    exact back_j2 hl hm hq hk
theorem StockBack : quartermasterlaw17_StockBack.Pure := by
  intro l a b q tw hn hqs w0 w1 w2 w3
  obtain ⟨k, hk⟩ : ∃ k : Nat, k = 999 := ⟨_, rfl⟩
  refine ⟨k + 3, ?_⟩
  have hq : inI q := wfb w2
  have hup : ∀ x29 : Bool, x29 = true → quartermasterlaw17_StockBack.j0 (k + 3) l tw true x29 a b q = some true := fun x h => by
    subst h; rw [quartermasterlaw17_StockBack.j0, if_pos rfl]
  unfold quartermasterlaw17_StockBack.f
  rw [awake_f]
  simp only [Option.bind_some]
  rw [if_pos trivial]
  by_cases h1 : (l.length : Int) > 100
  · rw [if_pos h1]; exact hup _ rfl
  rw [if_neg h1, may_f (by omega) (by omega)]
  simp only [Option.bind_some]
  by_cases h3 : mayB l = true
  case neg => exact hup _ (by simpa using h3)
  have hm := mayB_iff.1 h3
  have hl : Lim l := lim_of hqs (by omega)
  have hlen := hm.length
  rw [quartermasterlaw17_StockBack.j0, if_neg (by simp [h3]), hold_f hl (fun x hx => by rw [List.mem_singleton.1 hx]; exact hq)]
  simp only [Option.bind_some]
  by_cases h : (holdP l [(⟨a, b, q⟩ : S32)]).2 = 0
  · obtain ⟨e1, e2⟩ := holdP_one h
    have e1' : (turnedP (holdF q) l a b q).2 = 0 := e1
    have e2' : holdP l [(⟨a, b, q⟩ : S32)] = turnedP (holdF q) l a b q := e2
    obtain ⟨_, hp, h0, _, _⟩ := turned_ok e1'
    have hg := hold_good hl a b q
    obtain ⟨f1, f2⟩ := hold_free hl e1'
    obtain ⟨s1, s2, s3⟩ := hold_ship hl e1'
    have hlen2 := ((less_good hl a b q).1 s2).length
    rw [e2', if_pos e1', free_f hg.2.2 hq]
    simp only [Option.bind_some]
    rw [f2, same_f (by omega) (by omega)]
    simp only [Option.bind_some]
    rw [ship_f hg.2.2 hq, w64neg h0 hq.2, adjust_f hl (inI_neg h0 hq.2), adjust_neg hm hp h0 hq.2]
    simp only [Option.bind_some]
    rw [s3, same_f (by omega) (by omega)]
    simp only [Option.bind_some]
    rw [if_pos f1, if_pos trivial, if_pos s1, if_pos s2, if_pos trivial]
    exact back_j1 hl hm hq (by omega)
  · rw [if_neg h]
    exact back_j1 hl hm hq (by omega)
end Go.Proofs.Ytkhghabenhhhaaa.Pure
