/- The check of bytes as plain arithmetic: what eight bits, a byte, many bytes make of a sum; that it is linear and takes nothing but nothing to nothing. No Go in it. -/
import Derived.Laws.BitsAllLaws
namespace Go.Proofs.Ytnpkndbhchmedaa.Ext

/-- One bit. -/
def stp (n : Nat) : Nat := if n % 2 = 1 then (n / 2) ^^^ 2197175160 else n / 2
/-- So many bits. -/
def stps : Nat → Nat → Nat
  | 0, n => n
  | j + 1, n => stp (stps j n)
/-- What the table has at a place. -/
def tab (i : Nat) : Nat := stps 8 i
theorem stps_succ (j n : Nat) : stps (j + 1) n = stp (stps j n) := rfl

theorem stp_lt {n : Nat} (h : n < 4294967296) : stp n < 4294967296 := by
  unfold stp
  split
  · exact Nat.xor_lt_two_pow (n := 32) (by omega) (by decide)
  · omega
theorem stps_lt {n : Nat} (h : n < 4294967296) : ∀ j, stps j n < 4294967296
  | 0 => h
  | j + 1 => stp_lt (stps_lt h j)

/-- A byte more. -/
def byteMore (n c : Nat) : Nat := tab ((n % 256) ^^^ c) ^^^ (n / 256)
theorem byteMore_lt {n c : Nat} (h : n < 4294967296) (hc : c < 256) : byteMore n c < 4294967296 := by
  unfold byteMore
  refine Nat.xor_lt_two_pow (n := 32) (stps_lt ?_ 8) (by omega)
  have : (n % 256) ^^^ c < 2 ^ 8 := Nat.xor_lt_two_pow (by omega) hc
  omega
/-- Many bytes more. -/
def feed (n : Nat) (l : List Int) : Nat := l.foldl (fun n c => byteMore n c.toNat) n
def okB (l : List Int) : Bool := l.all fun c => decide (0 ≤ c) && decide (c < 256)
theorem okB_at {l : List Int} (h : okB l = true) {c : Int} (hc : c ∈ l) : 0 ≤ c ∧ c < 256 := by
  have := List.all_eq_true.1 h c hc
  simpa using this
theorem feed_lt {l : List Int} (h : okB l = true) : ∀ {n : Nat}, n < 4294967296 → feed n l < 4294967296 := by
  induction l with
  | nil => intro n hn; exact hn
  | cons c l ih =>
    intro n hn
    obtain ⟨h1, h2⟩ := okB_at h (List.mem_cons_self)
    refine ih (by simp [okB] at h ⊢; exact h.2) (byteMore_lt hn (by omega))
theorem feed_snoc (n : Nat) (l : List Int) (c : Int) : feed n (l ++ [c]) = byteMore (feed n l) c.toNat := by simp [feed]
theorem feed_append (n : Nat) (a b : List Int) : feed n (a ++ b) = feed (feed n a) b := by simp [feed]
end Go.Proofs.Ytnpkndbhchmedaa.Ext
