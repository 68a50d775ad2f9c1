/-
  No cell of these rows narrows 'for every input' (looked for: loops, veiled, ifaces, maps, wideKeys, modest, calm, conditions, laid).
  DERIVED. THE GIVEN ROWS OF THIS SEAT. 4 by the template 'for every input the law returns true; each argument reads behind the call as it read before'; 0 by the template 'total and deterministic' (their statements: YtlhmgbaplilbeaaTotals.lean).
  GIVEN WITH THE SEED: the statements are not yours to turn. If you find one false, say at which input.
  Laid BY PROGRAM, IN A SANDBOX (cutbox-rows.mjs): the forced cells as the released guide's own fill.sh prints them over the translation a7abe92a113c2df7… (all of the seat's roots in one cut). By AI agents, Wed Nov 11 2026. No macro, syntax, notation, axiom, sorry.
-/
import Derived.Test.YtlhmgbaplilbeaaChecked
import GoSem.Claim
import GoSem.ClaimJoined
import GoSem.ClaimMapViews
import Derived.JoinedTies
import Derived.KernelRfl
namespace Go.Proofs.Ytlhmgbaplilbeaa
/- THE CELL 'sum', in the pinned program and in every row, IS THE sha256 OF THE DUMP (.gsa) THAT YtlhmgbaplilbeaaProg.lean LOADS. Nothing in Lean hashes anything: it is a label: what it is worth is what the hold of that sum in a sandbox is worth. -/
noncomputable def Try.pinned : Pinned := { name := "ytlhmgbaplilbeaa", sum := "a7abe92a113c2df7f63dcb8075f1513987664c2c31d75820bff4f4dba1aa92e7", checked := Try.checked }
namespace Rows
def none {H : Type} : Left H := { results := [], args := [] }

/-- 'quartermasterlaw16.QtyTells': WHATEVER THE INPUT: true; the input reads as it did. -/
def qtyTellsSpec : ChangeSpec := { name := "qtyTells", fn := fun _ => fun
  | [d1, d2] => { results := [.lit (.bool true)], args := [d1, d2] }
  | _ => none }
def qtyTellsRow : OpenClaim := { program := "ytlhmgbaplilbeaa", sum := "a7abe92a113c2df7f63dcb8075f1513987664c2c31d75820bff4f4dba1aa92e7", func := "quartermaster/quartermasterlaw16.QtyTells", spec := "qtyTells", apart := false }
def QtyTellsSaid : Prop := qtyTellsRow.holds Try.pinned (OpenSpec.ofChange qtyTellsSpec)

/-- ITS FALSE NEIGHBOUR: 'it returns false'. Refute it at one input. -/
def qtyTellsWrong : ChangeSpec := { name := "qtyTells", fn := fun _ => fun
  | [d1, d2] => { results := [.lit (.bool false)], args := [d1, d2] }
  | _ => none }
def QtyTellsWrongFalsely : Prop := qtyTellsRow.holds Try.pinned (OpenSpec.ofChange qtyTellsWrong)

/-- 'quartermasterlaw16.QtySums': WHATEVER THE INPUT: true; the input reads as it did. -/
def qtySumsSpec : ChangeSpec := { name := "qtySums", fn := fun _ => fun
  | [d] => { results := [.lit (.bool true)], args := [d] }
  | _ => none }
def qtySumsRow : OpenClaim := { program := "ytlhmgbaplilbeaa", sum := "a7abe92a113c2df7f63dcb8075f1513987664c2c31d75820bff4f4dba1aa92e7", func := "quartermaster/quartermasterlaw16.QtySums", spec := "qtySums", apart := false }
def QtySumsSaid : Prop := qtySumsRow.holds Try.pinned (OpenSpec.ofChange qtySumsSpec)

/-- ITS FALSE NEIGHBOUR: 'it returns false'. Refute it at one input. -/
def qtySumsWrong : ChangeSpec := { name := "qtySums", fn := fun _ => fun
  | [d] => { results := [.lit (.bool false)], args := [d] }
  | _ => none }
def QtySumsWrongFalsely : Prop := qtySumsRow.holds Try.pinned (OpenSpec.ofChange qtySumsWrong)

/-- 'quartermasterlaw16.QtyBack': WHATEVER THE INPUT: true; the input reads as it did. -/
def qtyBackSpec : ChangeSpec := { name := "qtyBack", fn := fun _ => fun
  | [d1, d2, d3] => { results := [.lit (.bool true)], args := [d1, d2, d3] }
  | _ => none }
def qtyBackRow : OpenClaim := { program := "ytlhmgbaplilbeaa", sum := "a7abe92a113c2df7f63dcb8075f1513987664c2c31d75820bff4f4dba1aa92e7", func := "quartermaster/quartermasterlaw16.QtyBack", spec := "qtyBack", apart := false }
def QtyBackSaid : Prop := qtyBackRow.holds Try.pinned (OpenSpec.ofChange qtyBackSpec)

/-- ITS FALSE NEIGHBOUR: 'it returns false'. Refute it at one input. -/
def qtyBackWrong : ChangeSpec := { name := "qtyBack", fn := fun _ => fun
  | [d1, d2, d3] => { results := [.lit (.bool false)], args := [d1, d2, d3] }
  | _ => none }
def QtyBackWrongFalsely : Prop := qtyBackRow.holds Try.pinned (OpenSpec.ofChange qtyBackWrong)

/-- 'quartermasterlaw16.QtyMore': WHATEVER THE INPUT: true; the input reads as it did. -/
def qtyMoreSpec : ChangeSpec := { name := "qtyMore", fn := fun _ => fun
  | [d1, d2, d3] => { results := [.lit (.bool true)], args := [d1, d2, d3] }
  | _ => none }
def qtyMoreRow : OpenClaim := { program := "ytlhmgbaplilbeaa", sum := "a7abe92a113c2df7f63dcb8075f1513987664c2c31d75820bff4f4dba1aa92e7", func := "quartermaster/quartermasterlaw16.QtyMore", spec := "qtyMore", apart := false }
def QtyMoreSaid : Prop := qtyMoreRow.holds Try.pinned (OpenSpec.ofChange qtyMoreSpec)

/-- ITS FALSE NEIGHBOUR: 'it returns false'. Refute it at one input. -/
def qtyMoreWrong : ChangeSpec := { name := "qtyMore", fn := fun _ => fun
  | [d1, d2, d3] => { results := [.lit (.bool false)], args := [d1, d2, d3] }
  | _ => none }
def QtyMoreWrongFalsely : Prop := qtyMoreRow.holds Try.pinned (OpenSpec.ofChange qtyMoreWrong)

/- THE SECOND FORM. 'bulk': how many values and letters a reading holds, each counted each time it is reached (what is shared counts as often as it is met; a slice's spare places count too). A statement '..UptoSaid' is the law's where the arguments, and the package variables that the reading takes, are together of bulk at most 1048576: NARROWER than '..Said'. Prove '..Said' where nothing that the law and all that it calls make is longer than what came in: it says more and counts as full. Else prove '..UptoSaid'. A law counts once. -/
mutual
def uptoBulk {H : Type} : DataW H → Nat
  | .lit (.string bytes) => bytes.length + 1
  | .lit _ => 1
  | .nil => 1
  | .ptr d => uptoBulk d + 1
  | .slice elems spare => uptoBulkAll elems + uptoBulkAll spare + 1
  | .agg parts => uptoBulkAll parts + 1
  | .iface _ d => uptoBulk d + 1
  | .map entries => uptoBulkEntries entries + 1
  | .held _ => 1
def uptoBulkAll {H : Type} : List (DataW H) → Nat
  | [] => 0
  | d :: r => uptoBulk d + uptoBulkAll r
def uptoBulkEntries {H : Type} : List (Lit × DataW H) → Nat
  | [] => 0
  | x :: r => uptoBulkEntry x + uptoBulkEntries r
def uptoBulkEntry {H : Type} : Lit × DataW H → Nat
  | (.string bytes, d) => bytes.length + uptoBulk d + 1
  | (_, d) => uptoBulk d + 1
 end
def uptoSmall : (H : Type) → List (DataW H) → Bool := fun _ ds => decide (uptoBulkAll ds ≤ 1048576)
def OpenSpec.upto (s : _root_.Go.ChangeSpec) : _root_.Go.OpenSpec := { _root_.Go.OpenSpec.ofChange s with cond := some uptoSmall }

/-- 'quartermasterlaw16.QtyTells', WHERE WHAT IT READS IS OF BULK AT MOST 1048576: true; the input reads as it did. -/
def qtyTellsUptoRow : OpenClaim := { program := "ytlhmgbaplilbeaa", sum := "a7abe92a113c2df7f63dcb8075f1513987664c2c31d75820bff4f4dba1aa92e7", func := "quartermaster/quartermasterlaw16.QtyTells", spec := "qtyTells", apart := false, narrowed := true }
def QtyTellsUptoSaid : Prop := qtyTellsUptoRow.holds Try.pinned (OpenSpec.upto qtyTellsSpec)

/-- 'quartermasterlaw16.QtySums', WHERE WHAT IT READS IS OF BULK AT MOST 1048576: true; the input reads as it did. -/
def qtySumsUptoRow : OpenClaim := { program := "ytlhmgbaplilbeaa", sum := "a7abe92a113c2df7f63dcb8075f1513987664c2c31d75820bff4f4dba1aa92e7", func := "quartermaster/quartermasterlaw16.QtySums", spec := "qtySums", apart := false, narrowed := true }
def QtySumsUptoSaid : Prop := qtySumsUptoRow.holds Try.pinned (OpenSpec.upto qtySumsSpec)

/-- 'quartermasterlaw16.QtyBack', WHERE WHAT IT READS IS OF BULK AT MOST 1048576: true; the input reads as it did. -/
def qtyBackUptoRow : OpenClaim := { program := "ytlhmgbaplilbeaa", sum := "a7abe92a113c2df7f63dcb8075f1513987664c2c31d75820bff4f4dba1aa92e7", func := "quartermaster/quartermasterlaw16.QtyBack", spec := "qtyBack", apart := false, narrowed := true }
def QtyBackUptoSaid : Prop := qtyBackUptoRow.holds Try.pinned (OpenSpec.upto qtyBackSpec)

/-- 'quartermasterlaw16.QtyMore', WHERE WHAT IT READS IS OF BULK AT MOST 1048576: true; the input reads as it did. -/
def qtyMoreUptoRow : OpenClaim := { program := "ytlhmgbaplilbeaa", sum := "a7abe92a113c2df7f63dcb8075f1513987664c2c31d75820bff4f4dba1aa92e7", func := "quartermaster/quartermasterlaw16.QtyMore", spec := "qtyMore", apart := false, narrowed := true }
def QtyMoreUptoSaid : Prop := qtyMoreUptoRow.holds Try.pinned (OpenSpec.upto qtyMoreSpec)

end Rows
end Go.Proofs.Ytlhmgbaplilbeaa
