/- Two rows of bytes are the same or not; bytes written out. No conditions beside those that each theorem states. -/
import Derived.Test.YtamgeophebillaaCodeSit
namespace Go.Proofs.Ytamgeophebillaa.Code
open Go.RowKit Go.Proofs.Ytamgeophebillaa.Pa Go.Proofs.YtamgeophebillaaW.PrintWords Go.Proofs.YtamgeophebillaaW.PrintLast Go.Proofs.YtamgeophebillaaW.PrintMore
set_option linter.unusedVariables false
theorem rd_drop {l : List Int} {i : Nat} (h : i < l.length) : l.drop i = rd l i :: l.drop (i + 1) := drop_rd h
theorem same_l {a b : List Int} (hab : a.length = b.length) (hl : a.length ≤ 9223372036854775806) (d : Nat) : ∀ (k i : Nat), i + d = a.length → d < k →
    quartermasterref04_Same.l0 k a b i = some (a.drop i == b.drop i) := by
  induction d with
  | zero =>
    intro k i h hk
    obtain ⟨k, rfl⟩ : ∃ m, k = m + 1 := ⟨k - 1, by omega⟩
    simp only [quartermasterref04_Same.l0]
    rw [if_neg (by omega), List.drop_of_length_le (by omega), List.drop_of_length_le (by omega)]; rfl
  | succ d ih =>
    intro k i h hk
    obtain ⟨k, rfl⟩ : ∃ m, k = m + 1 := ⟨k - 1, by omega⟩
    simp only [quartermasterref04_Same.l0]
    rw [if_pos (by omega), if_pos (by omega), if_pos (by omega), rd_drop (l := a) (i := i) (by omega), rd_drop (l := b) (i := i) (by omega)]
    have e6 : wrap64 ((i : Int) + 1) = ((i + 1 : Nat) : Int) := by unfold wrap64; omega
    by_cases he : rd a i = rd b i
    · rw [if_pos he, e6, ih k (i + 1) (by omega) (by omega), he]; simp
    · rw [if_neg he]
      have : (rd a i == rd b i) = false := by simpa using he
      simp [this]
theorem same_f {k : Nat} {a b : List Int} (hl : a.length ≤ 9223372036854775806) (hk : a.length < k) : quartermasterref04_Same.f k a b = some (a == b) := by
  unfold quartermasterref04_Same.f
  by_cases h : a.length = b.length
  · rw [if_pos (by omega)]
    have := same_l h hl a.length k 0 (by omega) hk
    simpa using this
  · rw [if_neg (by omega)]
    have : ¬ a = b := fun e => h (by rw [e])
    simp [this]

theorem same_any {A0 A1 : Option Addr} {c0 c1 : Nat} {a b : List Int} {w : World} (h0 : Kd.C (Kd.int .u8) w A0 a.length a) (hc0 : a.length ≤ c0) (h1 : Kd.C (Kd.int .u8) w A1 b.length b) (hc1 : b.length ≤ c1) (hl : a.length ≤ 9223372036854775806) :
    Calls Try.prog 14 #[.slice A0 a.length c0, .slice A1 b.length c1] w fun e w' => e = .returned (.bool (a == b)) ∧ Drawn0 w w' :=
  quartermasterref04_Same.calls (a.length + 1) A0 c0 a A1 c1 b _ w h0 hc0 h1 hc1 (same_f hl (Nat.lt_succ_self _))
theorem C_bytes {W : World} {g n : Nat} (xs : List Int) (hn : xs.length = n) (hm : n ≤ 9223372036854775807) (hb : W.heap[g]? = some (.cells (xs.map (Value.int .u8)).toArray 5 (0, 0))) :
    Kd.C (Kd.int .u8) W (some ⟨g, 0, none⟩) n xs := by
  subst hn
  refine Kd.C_of_reads (d := (0 : Int)) (h1 := fun _ => rfl) ⟨rfl, hm, fun _ => ⟨_, rfl, fun j hj => ?_⟩⟩
  rw [add_plain, cell_of_row _ _ _ _ _ _ hb]
  simp [hj]
theorem sit_bytes_blk {w0 W : World} {T : List Thing} {q g n c : Nat} {bs b : List Int} (h : Sit w0 W (.blk g (.cells (b.map (Value.int .u8)).toArray 5 (0, 0)) :: .out q bs :: T)) (hn : b.length = n) (hc : b.length ≤ c) (hm : b.length ≤ 9223372036854775807) (hl : bs.length ≤ 549755813888) :
    Calls Try.prog 26 #[.pointer (some ⟨q, 0, none⟩), .slice (some ⟨g, 0, none⟩) n c] W fun e w' => e = .returned (.int .i64 (if 4096 < b.length then 2 else 0)) ∧ Sit w0 w' (.out q (if 4096 < b.length then bs else bs ++ (digs b.length ++ b)) :: .blk g (.cells (b.map (Value.int .u8)).toArray 5 (0, 0)) :: T) := by
  subst hn
  refine sit_bytes h.swap (fun F W' hF hA hW => ?_) hc hl
  obtain ⟨F', ⟨h1, h2⟩, h3, _⟩ := hA
  have hg := (h2 g).2 rfl
  exact C_bytes b rfl hm (hW.block h1 (fun hf => (h3 g hg).2.2 (.inr hf)))
theorem Sit.drawn {w0 W W' : World} {T : List Thing} (h : Sit w0 W T) (hd : Drawn0 W W') : Sit w0 W' T := by
  obtain ⟨n, rfl⟩ := hd
  exact h.drewN n
end Go.Proofs.Ytamgeophebillaa.Code
