/- StockSums as a plain law. -/
import Derived.Test.YtkhghabenhhhaaaPz3
import Derived.Test.YtkhghabenhhhaaaPureStockZ
import Derived.Test.YtkhghabenhhhaaaStockSums
namespace Go.Proofs.Ytkhghabenhhhaaa.Pure
open Go Go.RowKit Go.Proofs.Ytkhghabenhhhaaa.Pa Go.Proofs.Ytkhghabenhhhaaa.Pz Go.Proofs.Ytkhghabenhhhaaa.Ext Go.Proofs.Ytkhghabenhhhaaa.Stock Go.Proofs.YtkhghabenhhhaaaW.PrintWords Go.Proofs.YtkhghabenhhhaaaW.PrintLast
set_option linter.unusedVariables false

theorem sums_j2 {k : Nat} {l : List S37} {sku : Int} {r : List S37} {i kind tw sk lc q : Int} {m : List S32} {s0 s1 s2 s3 t0 t1 t2 t3 : Int} {x : Bool} (hx : x = false) (h : kind < 0 ∨ kind > 4 ∨ kind = 3 → s2 = t2) :
    lawSums.j2 (k + 1) l sku r i x kind tw sk lc q m s0 s1 s2 s3 t0 t1 t2 t3 = lawSums.l0 k l sku r (wrap64 (i + 1)) kind tw sk lc q m := by
  rw [lawSums.j2, hx, if_neg (by simp)]
  by_cases h1 : kind < 0
  · rw [if_pos h1, if_pos (h (.inl h1))]
  · rw [if_neg h1]
    by_cases h2 : kind > 4
    · rw [if_pos h2, if_pos (h (.inr (.inl h2)))]
    · rw [if_neg h2]
      by_cases h3 : kind = 3
      · rw [if_pos h3, if_pos (h (.inr (.inr h3)))]
      · rw [if_neg h3]
theorem sums_l {l r : List S37} (hl : Lim l) (hr : Lim r) (hm : May l) (hm2 : May r) {sku kind tw sk lc q : Int} {m : List S32} (hs : inI sku) (hsk : inI sk) (hlc : inI lc) (htw : inI tw) (hq : inI q)
    (H1 : kind ≥ 0 → kind ≤ 4 → ¬ sk = sku → ∀ b, getS r sku b = getS l sku b) (H2 : kind < 0 ∨ kind > 4 ∨ kind = 3 → ∀ a b, (getS l a b).f2 = (getS r a b).f2)
    (H3 : kind = 2 → (getS l sk lc).f2 - (getS r sk lc).f2 = q ∧ (getS r sk tw).f2 - (getS l sk tw).f2 = q) (d : Nat) : ∀ (k i : Nat), i + d = 4 → 2 * d < k → lawSums.l0 k l sku r (i : Int) kind tw sk lc q m = some true := by
  induction d with
  | zero =>
    intro k i h hk
    obtain ⟨k, rfl⟩ : ∃ m, k = m + 1 := ⟨k - 1, by omega⟩
    rw [lawSums.l0, if_neg (by omega)]
    by_cases h2 : kind = 2
    · obtain ⟨h3, h4⟩ := H3 h2
      rw [if_pos h2, at_f hl hsk hlc, at_f hr hsk hlc, at_f hr hsk htw, at_f hl hsk htw, at_may hm, at_may hm2, at_may hm, at_may hm2]
      simp only [Option.bind_some]
      rw [h3, h4, w64 hq.1 hq.2, if_pos rfl]
      simp
    · rw [if_neg h2]
  | succ d ih =>
    intro k i h hk
    obtain ⟨k, rfl⟩ : ∃ m, k = m + 1 + 1 := ⟨k - 2, by omega⟩
    have hi : inI (i : Int) := ⟨by omega, by omega⟩
    rw [lawSums.l0, if_pos (by omega), at_f hl hs hi, at_f hr hs hi, at_may hm, at_may hm2]
    simp only [Option.bind_some]
    have hw : wrap64 ((i : Int) + 1) = ((i + 1 : Nat) : Int) := wi (by omega)
    have go : ∀ x : Bool, x = false → lawSums.j2 (k + 1) l sku r (i : Int) x kind tw sk lc q m (getS l sku i).f0 (getS l sku i).f1 (getS l sku i).f2 (getS l sku i).f3 (getS r sku i).f0 (getS r sku i).f1 (getS r sku i).f2 (getS r sku i).f3 = some true := fun x hx => by
      rw [sums_j2 hx (fun h => H2 h _ _), hw]
      exact ih k (i + 1) (by omega) (by omega)
    by_cases h1 : kind ≥ 0
    · rw [if_pos h1]
      by_cases h2 : kind ≤ 4
      · rw [if_pos h2]
        by_cases h3 : sk = sku
        · rw [if_pos h3]; exact go _ rfl
        · rw [if_neg h3]; exact go _ (by rw [H1 h1 h2 h3]; simp)
      · rw [if_neg h2]; exact go _ rfl
    · rw [if_neg h1]; exact go _ rfl
theorem StockSums : lawSums.Pure := by
  intro l kind tw sk lc q m sku hn hqs w0 w1 w2 w3 w4 hmn hmq w5
  obtain ⟨k, hk⟩ : ∃ k : Nat, k = 999 := ⟨_, rfl⟩
  refine ⟨k + 1, ?_⟩
  have hq : inI q := wfb w4
  have hup : ∀ x29 : Bool, x29 = true → lawSums.j0 (k + 1) l sku true x29 kind tw sk lc q m = some true := fun x h => by
    subst h; rw [lawSums.j0, if_pos rfl]
  unfold lawSums.f
  rw [awake_f]
  simp only [Option.bind_some]
  rw [if_pos trivial]
  by_cases h1 : (l.length : Int) > 100
  · rw [if_pos h1]; exact hup _ rfl
  rw [if_neg h1]
  by_cases h2 : (m.length : Int) > 20
  · rw [if_pos h2]; exact hup _ rfl
  rw [if_neg h2, may_f (by omega) (by omega)]
  simp only [Option.bind_some]
  by_cases h3 : mayB l = true
  case neg => exact hup _ (by simpa using h3)
  have hm := mayB_iff.1 h3
  have hl : Lim l := lim_of hqs (by omega)
  have hg := does_good hl kind tw sk lc q m
  rw [lawSums.j0, if_neg (by simp [h3]), does_f hl hq (limL_of hmq)]
  simp only [Option.bind_some]
  by_cases h4 : (doesP l kind tw sk lc q m).2 = 0
  case neg => rw [if_neg h4]
  rw [if_pos h4]
  refine sums_l hl hg.2.2 hm (hg.1 h4) (wfb w5) (wfb w2) (wfb w3) (wfb w1) hq ?_ ?_ ?_ 4 k 0 rfl (by omega)
  · intro g0 g1 g2 b
    unfold doesP at h4 ⊢
    by_cases c0 : kind = 0
    · rw [if_pos c0] at h4 ⊢; exact turned_other (fun _ => takeF_turns q) hl h4 g2
    rw [if_neg c0] at h4 ⊢
    by_cases c1 : kind = 1
    · rw [if_pos c1] at h4 ⊢; exact adjust_other hl h4 g2
    rw [if_neg c1] at h4 ⊢
    by_cases c2 : kind = 2
    · rw [if_pos c2] at h4 ⊢; exact move_other hl h4 g2
    rw [if_neg c2] at h4 ⊢
    by_cases c3 : kind = 3
    · rw [if_pos c3] at h4 ⊢; exact turned_other (fun _ => freeF_turns q) hl h4 g2
    rw [if_neg c3] at h4 ⊢
    have c4 : kind = 4 := by omega
    rw [if_pos c4] at h4 ⊢; exact turned_other (fun h0 => shipF_turns h0) hl h4 g2
  · intro g a b
    unfold doesP at h4 ⊢
    by_cases c3 : kind = 3
    · rw [if_neg (by omega), if_neg (by omega), if_neg (by omega), if_pos c3] at h4 ⊢; exact (free_hand hl h4 a b).symm
    · rw [if_neg (by omega), if_neg (by omega), if_neg (by omega), if_neg c3, if_neg (by omega)] at h4 ⊢; exact (holdP_hand hl h4 a b).symm
  · intro c2
    unfold doesP at h4 ⊢
    rw [if_neg (by omega), if_neg (by omega), if_pos c2] at h4 ⊢
    have M := move_ok hl h4
    constructor
    · rw [M.get, if_neg (fun e => M.ne e.2.symm), if_pos ⟨rfl, rfl⟩]; show (getS l sk lc).f2 - ((getS l sk lc).f2 - q) = q; omega
    · rw [M.get, if_pos ⟨rfl, rfl⟩]; show (getS l sk tw).f2 + q - (getS l sk tw).f2 = q; omega
end Go.Proofs.Ytkhghabenhhhaaa.Pure
