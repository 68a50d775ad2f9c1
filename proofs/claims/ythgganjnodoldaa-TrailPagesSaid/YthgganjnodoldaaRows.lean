/-
  No cell of these rows narrows 'for every input' (looked for: loops, veiled, ifaces, maps, wideKeys, modest, calm, conditions, laid).
  DERIVED. THE GIVEN ROWS OF THIS SEAT. 4 by the template 'for every input the law returns true; each argument reads behind the call as it read before'; 0 by the template 'total and deterministic' (their statements: YthgganjnodoldaaTotals.lean).
  GIVEN WITH THE SEED: the statements are not yours to turn. If you find one false, say at which input.
  Laid BY PROGRAM, IN A SANDBOX (cutbox-rows.mjs): the forced cells as the released guide's own fill.sh prints them over the translation 0d22344568233ca2… (all of the seat's roots in one cut). By AI agents, Wed Nov 11 2026. No macro, syntax, notation, axiom, sorry.
-/
import Derived.Test.YthgganjnodoldaaChecked
import GoSem.Claim
import GoSem.ClaimJoined
import GoSem.ClaimMapViews
import Derived.JoinedTies
import Derived.KernelRfl
namespace Go.Proofs.Ythgganjnodoldaa
/- THE CELL 'sum', in the pinned program and in every row, IS THE sha256 OF THE DUMP (.gsa) THAT YthgganjnodoldaaProg.lean LOADS. Nothing in Lean hashes anything: it is a label: what it is worth is what the hold of that sum in a sandbox is worth. -/
noncomputable def Try.pinned : Pinned := { name := "ythgganjnodoldaa", sum := "0d22344568233ca280a585efe2d5100e36f3fa266c97522f95c8c1c5692d2348", checked := Try.checked }
namespace Rows
def none {H : Type} : Left H := { results := [], args := [] }

/-- 'quartermasterlaw19.TrailTells': WHATEVER THE INPUT: true; the input reads as it did. -/
def trailTellsSpec : ChangeSpec := { name := "trailTells", fn := fun _ => fun
  | [d1, d2, d3, d4, d5, d6] => { results := [.lit (.bool true)], args := [d1, d2, d3, d4, d5, d6] }
  | _ => none }
def trailTellsRow : OpenClaim := { program := "ythgganjnodoldaa", sum := "0d22344568233ca280a585efe2d5100e36f3fa266c97522f95c8c1c5692d2348", func := "quartermaster/quartermasterlaw19.TrailTells", spec := "trailTells", unfollowed := true, recurses := true, apart := false }
def TrailTellsSaid : Prop := trailTellsRow.holds Try.pinned (OpenSpec.ofChange trailTellsSpec)

/-- ITS FALSE NEIGHBOUR: 'it returns false'. Refute it at one input. -/
def trailTellsWrong : ChangeSpec := { name := "trailTells", fn := fun _ => fun
  | [d1, d2, d3, d4, d5, d6] => { results := [.lit (.bool false)], args := [d1, d2, d3, d4, d5, d6] }
  | _ => none }
def TrailTellsWrongFalsely : Prop := trailTellsRow.holds Try.pinned (OpenSpec.ofChange trailTellsWrong)

/-- 'quartermasterlaw19.TrailPairs': WHATEVER THE INPUT: true; the input reads as it did. -/
def trailPairsSpec : ChangeSpec := { name := "trailPairs", fn := fun _ => fun
  | [d1, d2, d3, d4] => { results := [.lit (.bool true)], args := [d1, d2, d3, d4] }
  | _ => none }
def trailPairsRow : OpenClaim := { program := "ythgganjnodoldaa", sum := "0d22344568233ca280a585efe2d5100e36f3fa266c97522f95c8c1c5692d2348", func := "quartermaster/quartermasterlaw19.TrailPairs", spec := "trailPairs", unfollowed := true, recurses := true, apart := false }
def TrailPairsSaid : Prop := trailPairsRow.holds Try.pinned (OpenSpec.ofChange trailPairsSpec)

/-- ITS FALSE NEIGHBOUR: 'it returns false'. Refute it at one input. -/
def trailPairsWrong : ChangeSpec := { name := "trailPairs", fn := fun _ => fun
  | [d1, d2, d3, d4] => { results := [.lit (.bool false)], args := [d1, d2, d3, d4] }
  | _ => none }
def TrailPairsWrongFalsely : Prop := trailPairsRow.holds Try.pinned (OpenSpec.ofChange trailPairsWrong)

/-- 'quartermasterlaw19.TrailPages': WHATEVER THE INPUT: true; the input reads as it did. -/
def trailPagesSpec : ChangeSpec := { name := "trailPages", fn := fun _ => fun
  | [d1, d2] => { results := [.lit (.bool true)], args := [d1, d2] }
  | _ => none }
def trailPagesRow : OpenClaim := { program := "ythgganjnodoldaa", sum := "0d22344568233ca280a585efe2d5100e36f3fa266c97522f95c8c1c5692d2348", func := "quartermaster/quartermasterlaw19.TrailPages", spec := "trailPages", unfollowed := true, recurses := true, apart := false }
def TrailPagesSaid : Prop := trailPagesRow.holds Try.pinned (OpenSpec.ofChange trailPagesSpec)

/-- ITS FALSE NEIGHBOUR: 'it returns false'. Refute it at one input. -/
def trailPagesWrong : ChangeSpec := { name := "trailPages", fn := fun _ => fun
  | [d1, d2] => { results := [.lit (.bool false)], args := [d1, d2] }
  | _ => none }
def TrailPagesWrongFalsely : Prop := trailPagesRow.holds Try.pinned (OpenSpec.ofChange trailPagesWrong)

/-- 'quartermasterlaw19.TrailSums': WHATEVER THE INPUT: true; the input reads as it did. -/
def trailSumsSpec : ChangeSpec := { name := "trailSums", fn := fun _ => fun
  | [d1, d2, d3, d4] => { results := [.lit (.bool true)], args := [d1, d2, d3, d4] }
  | _ => none }
def trailSumsRow : OpenClaim := { program := "ythgganjnodoldaa", sum := "0d22344568233ca280a585efe2d5100e36f3fa266c97522f95c8c1c5692d2348", func := "quartermaster/quartermasterlaw19.TrailSums", spec := "trailSums", unfollowed := true, recurses := true, apart := false }
def TrailSumsSaid : Prop := trailSumsRow.holds Try.pinned (OpenSpec.ofChange trailSumsSpec)

/-- ITS FALSE NEIGHBOUR: 'it returns false'. Refute it at one input. -/
def trailSumsWrong : ChangeSpec := { name := "trailSums", fn := fun _ => fun
  | [d1, d2, d3, d4] => { results := [.lit (.bool false)], args := [d1, d2, d3, d4] }
  | _ => none }
def TrailSumsWrongFalsely : Prop := trailSumsRow.holds Try.pinned (OpenSpec.ofChange trailSumsWrong)

/- THE SECOND FORM. 'bulk': how many values and letters a reading holds, each counted each time it is reached (what is shared counts as often as it is met; a slice's spare places count too). A statement '..UptoSaid' is the law's where the arguments, and the package variables that the reading takes, are together of bulk at most 1048576: NARROWER than '..Said'. Prove '..Said' where nothing that the law and all that it calls make is longer than what came in: it says more and counts as full. Else prove '..UptoSaid'. A law counts once. -/
mutual
def uptoBulk {H : Type} : DataW H → Nat
  | .lit (.string bytes) => bytes.length + 1
  | .lit _ => 1
  | .nil => 1
  | .ptr d => uptoBulk d + 1
  | .slice elems spare => uptoBulkAll elems + uptoBulkAll spare + 1
  | .agg parts => uptoBulkAll parts + 1
  | .iface _ d => uptoBulk d + 1
  | .map entries => uptoBulkEntries entries + 1
  | .held _ => 1
def uptoBulkAll {H : Type} : List (DataW H) → Nat
  | [] => 0
  | d :: r => uptoBulk d + uptoBulkAll r
def uptoBulkEntries {H : Type} : List (Lit × DataW H) → Nat
  | [] => 0
  | x :: r => uptoBulkEntry x + uptoBulkEntries r
def uptoBulkEntry {H : Type} : Lit × DataW H → Nat
  | (.string bytes, d) => bytes.length + uptoBulk d + 1
  | (_, d) => uptoBulk d + 1
 end
def uptoSmall : (H : Type) → List (DataW H) → Bool := fun _ ds => decide (uptoBulkAll ds ≤ 1048576)
def OpenSpec.upto (s : _root_.Go.ChangeSpec) : _root_.Go.OpenSpec := { _root_.Go.OpenSpec.ofChange s with cond := some uptoSmall }

/-- 'quartermasterlaw19.TrailTells', WHERE WHAT IT READS IS OF BULK AT MOST 1048576: true; the input reads as it did. -/
def trailTellsUptoRow : OpenClaim := { program := "ythgganjnodoldaa", sum := "0d22344568233ca280a585efe2d5100e36f3fa266c97522f95c8c1c5692d2348", func := "quartermaster/quartermasterlaw19.TrailTells", spec := "trailTells", unfollowed := true, recurses := true, apart := false, narrowed := true }
def TrailTellsUptoSaid : Prop := trailTellsUptoRow.holds Try.pinned (OpenSpec.upto trailTellsSpec)

/-- 'quartermasterlaw19.TrailPairs', WHERE WHAT IT READS IS OF BULK AT MOST 1048576: true; the input reads as it did. -/
def trailPairsUptoRow : OpenClaim := { program := "ythgganjnodoldaa", sum := "0d22344568233ca280a585efe2d5100e36f3fa266c97522f95c8c1c5692d2348", func := "quartermaster/quartermasterlaw19.TrailPairs", spec := "trailPairs", unfollowed := true, recurses := true, apart := false, narrowed := true }
def TrailPairsUptoSaid : Prop := trailPairsUptoRow.holds Try.pinned (OpenSpec.upto trailPairsSpec)

/-- 'quartermasterlaw19.TrailPages', WHERE WHAT IT READS IS OF BULK AT MOST 1048576: true; the input reads as it did. -/
def trailPagesUptoRow : OpenClaim := { program := "ythgganjnodoldaa", sum := "0d22344568233ca280a585efe2d5100e36f3fa266c97522f95c8c1c5692d2348", func := "quartermaster/quartermasterlaw19.TrailPages", spec := "trailPages", unfollowed := true, recurses := true, apart := false, narrowed := true }
def TrailPagesUptoSaid : Prop := trailPagesUptoRow.holds Try.pinned (OpenSpec.upto trailPagesSpec)

/-- 'quartermasterlaw19.TrailSums', WHERE WHAT IT READS IS OF BULK AT MOST 1048576: true; the input reads as it did. -/
def trailSumsUptoRow : OpenClaim := { program := "ythgganjnodoldaa", sum := "0d22344568233ca280a585efe2d5100e36f3fa266c97522f95c8c1c5692d2348", func := "quartermaster/quartermasterlaw19.TrailSums", spec := "trailSums", unfollowed := true, recurses := true, apart := false, narrowed := true }
def TrailSumsUptoSaid : Prop := trailSumsUptoRow.holds Try.pinned (OpenSpec.upto trailSumsSpec)

end Rows
end Go.Proofs.Ythgganjnodoldaa
