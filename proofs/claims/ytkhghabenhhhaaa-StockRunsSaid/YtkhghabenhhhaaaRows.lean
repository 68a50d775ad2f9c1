/-
  No cell of these rows narrows 'for every input' (looked for: loops, veiled, ifaces, maps, wideKeys, modest, calm, conditions, laid).
  DERIVED. THE GIVEN ROWS OF THIS SEAT. 6 by the template 'for every input the law returns true; each argument reads behind the call as it read before'; 0 by the template 'total and deterministic' (their statements: YtkhghabenhhhaaaTotals.lean).
  GIVEN WITH THE SEED: the statements are not yours to turn. If you find one false, say at which input.
  Laid BY PROGRAM, IN A SANDBOX (cutbox-rows.mjs): the forced cells as the released guide's own fill.sh prints them over the translation 7e24cc80612437bc… (all of the seat's roots in one cut). By AI agents, Wed Nov 11 2026. No macro, syntax, notation, axiom, sorry.
-/
import Derived.Test.YtkhghabenhhhaaaChecked
import GoSem.Claim
import GoSem.ClaimJoined
import GoSem.ClaimMapViews
import Derived.JoinedTies
import Derived.KernelRfl
namespace Go.Proofs.Ytkhghabenhhhaaa
/- THE CELL 'sum', in the pinned program and in every row, IS THE sha256 OF THE DUMP (.gsa) THAT YtkhghabenhhhaaaProg.lean LOADS. Nothing in Lean hashes anything: it is a label: what it is worth is what the hold of that sum in a sandbox is worth. -/
noncomputable def Try.pinned : Pinned := { name := "ytkhghabenhhhaaa", sum := "7e24cc80612437bc145ccda076dd19b0e2b6b186de5c74acffe8afb2742b1ce8", checked := Try.checked }
namespace Rows
def none {H : Type} : Left H := { results := [], args := [] }

/-- 'quartermasterlaw17.StockHolds': WHATEVER THE INPUT: true; the input reads as it did. -/
def stockHoldsSpec : ChangeSpec := { name := "stockHolds", fn := fun _ => fun
  | [d1, d2] => { results := [.lit (.bool true)], args := [d1, d2] }
  | _ => none }
def stockHoldsRow : OpenClaim := { program := "ytkhghabenhhhaaa", sum := "7e24cc80612437bc145ccda076dd19b0e2b6b186de5c74acffe8afb2742b1ce8", func := "quartermaster/quartermasterlaw17.StockHolds", spec := "stockHolds", inPlace := ["slices.overlaps[quartermaster/api.Spot]"], unfollowed := true, recurses := true, apart := false }
def StockHoldsSaid : Prop := stockHoldsRow.holds Try.pinned (OpenSpec.ofChange stockHoldsSpec)

/-- ITS FALSE NEIGHBOUR: 'it returns false'. Refute it at one input. -/
def stockHoldsWrong : ChangeSpec := { name := "stockHolds", fn := fun _ => fun
  | [d1, d2] => { results := [.lit (.bool false)], args := [d1, d2] }
  | _ => none }
def StockHoldsWrongFalsely : Prop := stockHoldsRow.holds Try.pinned (OpenSpec.ofChange stockHoldsWrong)

/-- 'quartermasterlaw17.StockDoes': WHATEVER THE INPUT: true; the input reads as it did. -/
def stockDoesSpec : ChangeSpec := { name := "stockDoes", fn := fun _ => fun
  | [d1, d2, d3, d4] => { results := [.lit (.bool true)], args := [d1, d2, d3, d4] }
  | _ => none }
def stockDoesRow : OpenClaim := { program := "ytkhghabenhhhaaa", sum := "7e24cc80612437bc145ccda076dd19b0e2b6b186de5c74acffe8afb2742b1ce8", func := "quartermaster/quartermasterlaw17.StockDoes", spec := "stockDoes", inPlace := ["slices.overlaps[quartermaster/api.Spot]"], unfollowed := true, recurses := true, apart := false }
def StockDoesSaid : Prop := stockDoesRow.holds Try.pinned (OpenSpec.ofChange stockDoesSpec)

/-- ITS FALSE NEIGHBOUR: 'it returns false'. Refute it at one input. -/
def stockDoesWrong : ChangeSpec := { name := "stockDoes", fn := fun _ => fun
  | [d1, d2, d3, d4] => { results := [.lit (.bool false)], args := [d1, d2, d3, d4] }
  | _ => none }
def StockDoesWrongFalsely : Prop := stockDoesRow.holds Try.pinned (OpenSpec.ofChange stockDoesWrong)

/-- 'quartermasterlaw17.StockRuns': WHATEVER THE INPUT: true; the input reads as it did. -/
def stockRunsSpec : ChangeSpec := { name := "stockRuns", fn := fun _ => fun
  | [d] => { results := [.lit (.bool true)], args := [d] }
  | _ => none }
def stockRunsRow : OpenClaim := { program := "ytkhghabenhhhaaa", sum := "7e24cc80612437bc145ccda076dd19b0e2b6b186de5c74acffe8afb2742b1ce8", func := "quartermaster/quartermasterlaw17.StockRuns", spec := "stockRuns", inPlace := ["slices.overlaps[quartermaster/api.Spot]"], unfollowed := true, recurses := true, apart := false }
def StockRunsSaid : Prop := stockRunsRow.holds Try.pinned (OpenSpec.ofChange stockRunsSpec)

/-- ITS FALSE NEIGHBOUR: 'it returns false'. Refute it at one input. -/
def stockRunsWrong : ChangeSpec := { name := "stockRuns", fn := fun _ => fun
  | [d] => { results := [.lit (.bool false)], args := [d] }
  | _ => none }
def StockRunsWrongFalsely : Prop := stockRunsRow.holds Try.pinned (OpenSpec.ofChange stockRunsWrong)

/-- 'quartermasterlaw17.StockStays': WHATEVER THE INPUT: true; the input reads as it did. -/
def stockStaysSpec : ChangeSpec := { name := "stockStays", fn := fun _ => fun
  | [d1, d2] => { results := [.lit (.bool true)], args := [d1, d2] }
  | _ => none }
def stockStaysRow : OpenClaim := { program := "ytkhghabenhhhaaa", sum := "7e24cc80612437bc145ccda076dd19b0e2b6b186de5c74acffe8afb2742b1ce8", func := "quartermaster/quartermasterlaw17.StockStays", spec := "stockStays", inPlace := ["slices.overlaps[quartermaster/api.Spot]"], unfollowed := true, recurses := true, apart := false }
def StockStaysSaid : Prop := stockStaysRow.holds Try.pinned (OpenSpec.ofChange stockStaysSpec)

/-- ITS FALSE NEIGHBOUR: 'it returns false'. Refute it at one input. -/
def stockStaysWrong : ChangeSpec := { name := "stockStays", fn := fun _ => fun
  | [d1, d2] => { results := [.lit (.bool false)], args := [d1, d2] }
  | _ => none }
def StockStaysWrongFalsely : Prop := stockStaysRow.holds Try.pinned (OpenSpec.ofChange stockStaysWrong)

/-- 'quartermasterlaw17.StockBack': WHATEVER THE INPUT: true; the input reads as it did. -/
def stockBackSpec : ChangeSpec := { name := "stockBack", fn := fun _ => fun
  | [d1, d2, d3] => { results := [.lit (.bool true)], args := [d1, d2, d3] }
  | _ => none }
def stockBackRow : OpenClaim := { program := "ytkhghabenhhhaaa", sum := "7e24cc80612437bc145ccda076dd19b0e2b6b186de5c74acffe8afb2742b1ce8", func := "quartermaster/quartermasterlaw17.StockBack", spec := "stockBack", inPlace := ["slices.overlaps[quartermaster/api.Spot]"], unfollowed := true, recurses := true, apart := false }
def StockBackSaid : Prop := stockBackRow.holds Try.pinned (OpenSpec.ofChange stockBackSpec)

/-- ITS FALSE NEIGHBOUR: 'it returns false'. Refute it at one input. -/
def stockBackWrong : ChangeSpec := { name := "stockBack", fn := fun _ => fun
  | [d1, d2, d3] => { results := [.lit (.bool false)], args := [d1, d2, d3] }
  | _ => none }
def StockBackWrongFalsely : Prop := stockBackRow.holds Try.pinned (OpenSpec.ofChange stockBackWrong)

/-- 'quartermasterlaw17.StockSums': WHATEVER THE INPUT: true; the input reads as it did. -/
def stockSumsSpec : ChangeSpec := { name := "stockSums", fn := fun _ => fun
  | [d1, d2, d3] => { results := [.lit (.bool true)], args := [d1, d2, d3] }
  | _ => none }
def stockSumsRow : OpenClaim := { program := "ytkhghabenhhhaaa", sum := "7e24cc80612437bc145ccda076dd19b0e2b6b186de5c74acffe8afb2742b1ce8", func := "quartermaster/quartermasterlaw17.StockSums", spec := "stockSums", inPlace := ["slices.overlaps[quartermaster/api.Spot]"], unfollowed := true, recurses := true, apart := false }
def StockSumsSaid : Prop := stockSumsRow.holds Try.pinned (OpenSpec.ofChange stockSumsSpec)

/-- ITS FALSE NEIGHBOUR: 'it returns false'. Refute it at one input. -/
def stockSumsWrong : ChangeSpec := { name := "stockSums", fn := fun _ => fun
  | [d1, d2, d3] => { results := [.lit (.bool false)], args := [d1, d2, d3] }
  | _ => none }
def StockSumsWrongFalsely : Prop := stockSumsRow.holds Try.pinned (OpenSpec.ofChange stockSumsWrong)

/- THE SECOND FORM. 'bulk': how many values and letters a reading holds, each counted each time it is reached (what is shared counts as often as it is met; a slice's spare places count too). A statement '..UptoSaid' is the law's where the arguments, and the package variables that the reading takes, are together of bulk at most 1048576: NARROWER than '..Said'. Prove '..Said' where nothing that the law and all that it calls make is longer than what came in: it says more and counts as full. Else prove '..UptoSaid'. A law counts once. -/
mutual
def uptoBulk {H : Type} : DataW H → Nat
  | .lit (.string bytes) => bytes.length + 1
  | .lit _ => 1
  | .nil => 1
  | .ptr d => uptoBulk d + 1
  | .slice elems spare => uptoBulkAll elems + uptoBulkAll spare + 1
  | .agg parts => uptoBulkAll parts + 1
  | .iface _ d => uptoBulk d + 1
  | .map entries => uptoBulkEntries entries + 1
  | .held _ => 1
def uptoBulkAll {H : Type} : List (DataW H) → Nat
  | [] => 0
  | d :: r => uptoBulk d + uptoBulkAll r
def uptoBulkEntries {H : Type} : List (Lit × DataW H) → Nat
  | [] => 0
  | x :: r => uptoBulkEntry x + uptoBulkEntries r
def uptoBulkEntry {H : Type} : Lit × DataW H → Nat
  | (.string bytes, d) => bytes.length + uptoBulk d + 1
  | (_, d) => uptoBulk d + 1
 end
def uptoSmall : (H : Type) → List (DataW H) → Bool := fun _ ds => decide (uptoBulkAll ds ≤ 1048576)
def OpenSpec.upto (s : _root_.Go.ChangeSpec) : _root_.Go.OpenSpec := { _root_.Go.OpenSpec.ofChange s with cond := some uptoSmall }

/-- 'quartermasterlaw17.StockHolds', WHERE WHAT IT READS IS OF BULK AT MOST 1048576: true; the input reads as it did. -/
def stockHoldsUptoRow : OpenClaim := { program := "ytkhghabenhhhaaa", sum := "7e24cc80612437bc145ccda076dd19b0e2b6b186de5c74acffe8afb2742b1ce8", func := "quartermaster/quartermasterlaw17.StockHolds", spec := "stockHolds", inPlace := ["slices.overlaps[quartermaster/api.Spot]"], unfollowed := true, recurses := true, apart := false, narrowed := true }
def StockHoldsUptoSaid : Prop := stockHoldsUptoRow.holds Try.pinned (OpenSpec.upto stockHoldsSpec)

/-- 'quartermasterlaw17.StockDoes', WHERE WHAT IT READS IS OF BULK AT MOST 1048576: true; the input reads as it did. -/
def stockDoesUptoRow : OpenClaim := { program := "ytkhghabenhhhaaa", sum := "7e24cc80612437bc145ccda076dd19b0e2b6b186de5c74acffe8afb2742b1ce8", func := "quartermaster/quartermasterlaw17.StockDoes", spec := "stockDoes", inPlace := ["slices.overlaps[quartermaster/api.Spot]"], unfollowed := true, recurses := true, apart := false, narrowed := true }
def StockDoesUptoSaid : Prop := stockDoesUptoRow.holds Try.pinned (OpenSpec.upto stockDoesSpec)

/-- 'quartermasterlaw17.StockRuns', WHERE WHAT IT READS IS OF BULK AT MOST 1048576: true; the input reads as it did. -/
def stockRunsUptoRow : OpenClaim := { program := "ytkhghabenhhhaaa", sum := "7e24cc80612437bc145ccda076dd19b0e2b6b186de5c74acffe8afb2742b1ce8", func := "quartermaster/quartermasterlaw17.StockRuns", spec := "stockRuns", inPlace := ["slices.overlaps[quartermaster/api.Spot]"], unfollowed := true, recurses := true, apart := false, narrowed := true }
def StockRunsUptoSaid : Prop := stockRunsUptoRow.holds Try.pinned (OpenSpec.upto stockRunsSpec)

/-- 'quartermasterlaw17.StockStays', WHERE WHAT IT READS IS OF BULK AT MOST 1048576: true; the input reads as it did. -/
def stockStaysUptoRow : OpenClaim := { program := "ytkhghabenhhhaaa", sum := "7e24cc80612437bc145ccda076dd19b0e2b6b186de5c74acffe8afb2742b1ce8", func := "quartermaster/quartermasterlaw17.StockStays", spec := "stockStays", inPlace := ["slices.overlaps[quartermaster/api.Spot]"], unfollowed := true, recurses := true, apart := false, narrowed := true }
def StockStaysUptoSaid : Prop := stockStaysUptoRow.holds Try.pinned (OpenSpec.upto stockStaysSpec)

/-- 'quartermasterlaw17.StockBack', WHERE WHAT IT READS IS OF BULK AT MOST 1048576: true; the input reads as it did. -/
def stockBackUptoRow : OpenClaim := { program := "ytkhghabenhhhaaa", sum := "7e24cc80612437bc145ccda076dd19b0e2b6b186de5c74acffe8afb2742b1ce8", func := "quartermaster/quartermasterlaw17.StockBack", spec := "stockBack", inPlace := ["slices.overlaps[quartermaster/api.Spot]"], unfollowed := true, recurses := true, apart := false, narrowed := true }
def StockBackUptoSaid : Prop := stockBackUptoRow.holds Try.pinned (OpenSpec.upto stockBackSpec)

/-- 'quartermasterlaw17.StockSums', WHERE WHAT IT READS IS OF BULK AT MOST 1048576: true; the input reads as it did. -/
def stockSumsUptoRow : OpenClaim := { program := "ytkhghabenhhhaaa", sum := "7e24cc80612437bc145ccda076dd19b0e2b6b186de5c74acffe8afb2742b1ce8", func := "quartermaster/quartermasterlaw17.StockSums", spec := "stockSums", inPlace := ["slices.overlaps[quartermaster/api.Spot]"], unfollowed := true, recurses := true, apart := false, narrowed := true }
def StockSumsUptoSaid : Prop := stockSumsUptoRow.holds Try.pinned (OpenSpec.upto stockSumsSpec)

end Rows
end Go.Proofs.Ytkhghabenhhhaaa
