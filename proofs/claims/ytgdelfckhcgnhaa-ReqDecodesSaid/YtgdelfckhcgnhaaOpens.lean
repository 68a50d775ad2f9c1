/- How an argument that reads as data is opened: what reads as a value of a type is told by the print's words for its kind. General, no function of the program in it. -/
import Derived.Test.YtgdelfckhcgnhaaWWords
import Derived.ProofKit
import Derived.OpenShut
import Derived.Deep.Slices
namespace Go.Proofs.Ytgdelfckhcgnhaa.Opens
open Go.RowKit Go.Proofs.YtgdelfckhcgnhaaW.PrintWords

/-- What reads as a value of type t is of the kind d, and Q holds of it. -/
def Opens {α : Type} (P : Program) (t : TypeId) (d : Kd α) (Q : α → Prop) : Prop :=
  ∀ {H : Type} {enc : TypeId × Value → H} {W : World} {base : Nat} {spare : Nat → Bool} {held : Bool} {fuel : Nat} {cs : List Value} {x : DataW H × List MemPlace},
    DataW.trod enc P W base spare held fuel t cs = some x → ∃ a, d.K W a cs ∧ Q a

variable {P : Program} {t : TypeId}
theorem Opens.int {k : IntKind} (hu : P.underlying t = some (.int k)) : Opens P t (Kd.int k) (fun n => (Lit.int k n).wf = true) := by
  intro H enc W base spare held fuel cs x h
  obtain ⟨n, e, _, w⟩ := DataW.trod_int hu h
  exact ⟨n, e, w⟩
theorem Opens.bool (hu : P.underlying t = some .bool) : Opens P t Kd.bool (fun _ => True) := by
  intro H enc W base spare held fuel cs x h
  obtain ⟨n, e, _⟩ := DataW.trod_bool hu h
  exact ⟨n, e, trivial⟩
theorem Opens.string (hu : P.underlying t = some .string) : Opens P t Kd.string (fun s => s.size ≤ maxLen) := by
  intro H enc W base spare held fuel cs x h
  obtain ⟨s, e, _, w⟩ := DataW.trod_string hu h
  exact ⟨s, e, w⟩
theorem choose_list {α : Type} {p : Nat → α → Prop} : ∀ n, (∀ i, i < n → ∃ a, p i a) → ∃ l : List α, l.length = n ∧ ∀ i a, l[i]? = some a → p i a
  | 0, _ => ⟨[], rfl, fun i a h => by simp at h⟩
  | n + 1, h => by
    obtain ⟨l, hl, hp⟩ := choose_list n (fun i hi => h i (by omega))
    obtain ⟨a, ha⟩ := h n (by omega)
    refine ⟨l ++ [a], by simp [hl], fun i b hb => ?_⟩
    rcases Nat.lt_or_ge i n with hi | hi
    · rw [List.getElem?_append_left (by omega)] at hb
      exact hp i b hb
    · have hlt := (List.getElem?_eq_some_iff.1 hb).1
      rw [List.length_append, List.length_singleton] at hlt
      have e : i = n := by omega
      subst e
      have : a = b := by simpa [hl] using hb
      exact this ▸ ha
theorem Opens.slice {α : Type} {e : TypeId} {d : Kd α} {Q : α → Prop} (hu : P.underlying t = some (.slice e)) (hc : P.cellsOf e = d.sz) (h : Opens P e d Q) : Opens P t (Kd.slice e d) (fun l => ∀ x ∈ l, Q x) := by
  intro H enc W base spare held fuel cs x ht
  rcases Go.Deep.open_slice hu ht with ⟨rfl, _⟩ | ⟨a, len, cap, m, n, D, Pl, rfl, _, hl, hm, hme, _, hel⟩
  · exact ⟨[], ⟨none, 0, rfl, Nat.le_refl _, Kd.C_nil _ _⟩, fun x hx => by simp at hx⟩
  · have hle : len ≤ m := by rw [hme]; split <;> omega
    obtain ⟨l, hll, hlp⟩ := choose_list (p := fun i x => Q x ∧ ∃ c, c.length = d.sz ∧ d.K W x c ∧ ∀ j u, c[j]? = some u → W.cell? (a.add (i * d.sz + j)) = some u) len (fun i hi => by
      obtain ⟨cs', hcs, htr⟩ := hel i (by omega)
      obtain ⟨x, hK, hQ⟩ := h htr
      obtain ⟨_, _, hcell⟩ := World.cells?_some hcs
      refine ⟨x, hQ, cs', d.K_len hK, hK, fun j u hu' => ?_⟩
      have hj := (List.getElem?_eq_some_iff.1 hu').1
      have := hcell j (by omega)
      rw [hc] at this
      rw [Addr.add_add] at this
      rw [this]; exact hu')
    refine ⟨l, ⟨some a, cap, by rw [hll], by omega, rfl, by simp only [maxLen] at hm; omega, fun _ => ⟨a, rfl, fun j p hj => ?_⟩⟩, fun x hx => ?_⟩
    · obtain ⟨_, hp⟩ := hlp j p hj
      exact hp
    · obtain ⟨i, hi⟩ := List.getElem?_of_mem hx
      exact (hlp i x hi).1

/-- The fields from a place on. -/
def OpensL {α : Type} (P : Program) (o : Nat) (fs : List Field) (d : Kd α) (Q : α → Prop) : Prop :=
  ∀ {H : Type} {enc : TypeId × Value → H} {W : World} {base : Nat} {spare : Nat → Bool} {held : Bool} {m : Nat} {cs : List Value}, cs.length = d.sz →
    (∀ f ∈ fs, ∃ y, DataW.trod enc P W base spare held m f.type ((cs.drop (f.offset - o)).take (P.cellsOf f.type)) = some y) → ∃ a, d.K W a cs ∧ Q a
theorem OpensL.last {α : Type} {f : Field} {d : Kd α} {Q : α → Prop} (hc : P.cellsOf f.type = d.sz) (h : Opens P f.type d Q) : OpensL P f.offset [f] d Q := by
  intro H enc W base spare held m cs hl hf
  obtain ⟨y, hy⟩ := hf f List.mem_cons_self
  rw [Nat.sub_self, List.drop_zero, hc, ← hl, List.take_length] at hy
  exact h hy
theorem OpensL.cons {α β : Type} {f : Field} {o1 : Nat} {fs : List Field} {d : Kd α} {d1 : Kd β} {Q : α → Prop} {Q1 : β → Prop} (hc : P.cellsOf f.type = d.sz) (ho : o1 = f.offset + d.sz) (hge : ∀ g ∈ fs, o1 ≤ g.offset)
    (h : Opens P f.type d Q) (h1 : OpensL P o1 fs d1 Q1) : OpensL P f.offset (f :: fs) (Kd.pair d d1) (fun x => Q x.1 ∧ Q1 x.2) := by
  intro H enc W base spare held m cs hl hf
  have hl' : cs.length = d.sz + d1.sz := hl
  obtain ⟨y, hy⟩ := hf f List.mem_cons_self
  rw [Nat.sub_self, List.drop_zero, hc] at hy
  obtain ⟨a, hK, hQ⟩ := h hy
  obtain ⟨b, hK1, hQ1⟩ := h1 (W := W) (enc := enc) (base := base) (spare := spare) (held := held) (m := m) (cs := cs.drop d.sz) (by rw [List.length_drop]; omega) (fun g hg => by
    obtain ⟨y, hy⟩ := hf g (List.mem_cons_of_mem _ hg)
    refine ⟨y, ?_⟩
    rw [List.drop_drop, show d.sz + (g.offset - o1) = g.offset - f.offset by have := hge g hg; omega]
    exact hy)
  exact ⟨(a, b), ⟨cs.take d.sz, cs.drop d.sz, (List.take_append_drop _ _).symm, hK, hK1⟩, hQ, hQ1⟩
theorem Opens.struct {α : Type} {fs : Array Field} {d : Kd α} {Q : α → Prop} (hu : P.underlying t = some (.struct fs)) (hc : P.cellsOf t = d.sz) (h : OpensL P 0 fs.toList d Q) : Opens P t d Q := by
  intro H enc W base spare held fuel cs x ht
  obtain ⟨xs, n, _, _, hl, hxl, hf⟩ := DataW.trod_struct hu ht
  refine h (W := W) (enc := enc) (base := base) (spare := spare) (held := held) (m := n) (by rw [hl, hc]) (fun f hfm => ?_)
  obtain ⟨i, hi⟩ := List.getElem?_of_mem hfm
  have hi' : fs[i]? = some f := by simpa using hi
  have := hf i f hi'
  have hlt : i < xs.length := by rw [hxl]; exact (Array.getElem?_eq_some_iff.1 hi').1
  rw [List.getElem?_eq_getElem hlt] at this
  exact ⟨_, by rw [Nat.sub_zero]; exact this⟩
theorem Opens.iso {α β : Type} {d : Kd α} {Q : α → Prop} (f : β → α) (g : α → β) (hg : ∀ a, f (g a) = a) (h : Opens P t d Q) : Opens P t (Kd.iso d f) (fun b => Q (f b)) := by
  intro H enc W base spare held fuel cs x ht
  obtain ⟨a, hK, hQ⟩ := h ht
  exact ⟨g a, by show d.K W (f (g a)) cs; rw [hg]; exact hK, by show Q (f (g a)); rw [hg]; exact hQ⟩
theorem Opens.imp {α : Type} {d : Kd α} {Q Q' : α → Prop} (h : Opens P t d Q) (hq : ∀ a, Q a → Q' a) : Opens P t d Q' := by
  intro H enc W base spare held fuel cs x ht
  obtain ⟨a, hK, hQ⟩ := h ht
  exact ⟨a, hK, hq a hQ⟩
/-- A whole argument. -/
theorem Opens.arg {α : Type} {d : Kd α} {Q : α → Prop} (h : Opens P t d Q) {H : Type} {enc : TypeId × Value → H} {W : World} {base : Nat} {spare : Nat → Bool} {held : Bool} {v : Value} {x : DataW H} {ps : List MemPlace}
    (ht : DataW.Trod enc P W base spare held t v x ps) : ∃ a, d.K W a v.cells.toList ∧ Q a := by
  obtain ⟨fuel, hf⟩ := ht
  exact h hf
end Go.Proofs.Ytgdelfckhcgnhaa.Opens
